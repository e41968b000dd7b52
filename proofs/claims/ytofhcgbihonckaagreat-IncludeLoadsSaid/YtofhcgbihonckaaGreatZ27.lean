/- bringupref05: region 16 of read (printed by gr5.py). | bringupref04: member: a part put behind the parts so far, region 24 (printed by gr4p.py). | bringupref04: member: a part put behind the parts so far, region 27 (printed by gr4p.py). | bringupref04: member, a property (printed by gr4t.py). | bringupref04: member, a property (printed by gr4t.py). | bringupref04: member, body, top. | bringupref04: Read. -/
import Derived.Test.YtofhcgbihonckaaGreatZ24
import Derived.Test.YtofhcgbihonckaaGreatZ1
import Derived.IntWalk
import Derived.Test.YtofhcgbihonckaaGreatZ28
import Derived.Test.YtofhcgbihonckaaGreatZ23
import Derived.Deep.AppendSrc
import Derived.Test.YtofhcgbihonckaaGreatZ26
import Derived.Deep.LoopGhost
import Derived.Deep.DeepCutAuto
import Derived.Deep.CutBlock
import Derived.Deep.CutRange
import Derived.Test.YtofhcgbihonckaaGreatZ18
import Derived.Test.YtofhcgbihonckaaGreatZ29
set_option linter.all false
set_option maxHeartbeats 8000000
namespace Go.Proofs.YtofhcgbihonckaaGreat
open Go.Lib (hid)
open Go.RowKit
noncomputable def Qtd:Array Oper:=(Qfc (Tryz.f77.body.getD .skip) 16).getD #[]
theorem nrR:QJf .any Qtd=true:=by kernel_rfl
theorem QUi:QGf Qtd=true:=by kernel_rfl
theorem Qwr:Qtd.size=18:=by kernel_rfl
def NrF(_ lb fg fo file fl fc _:Nat)(nv:Value)(nm:ByteArray)(_:Array Value)(_:List Value)(nB:Nat)(rv:Value)(j:Nat):Value→World→Prop:=match j with
 | 0=>fun u _=>u = .pointer (some ⟨lb,0,none⟩)
 | 1=>fun u _=>u = .pointer (some ⟨lb,0,none⟩)
 | 2=>fun u _=>u = .pointer (some ⟨lb,0,none⟩)
 | 3=>fun u _=>u = .pointer (some ⟨lb,2,none⟩)
 | 4=>fun u _=>u=nv
 | 5=>fun u _=>u = .pointer (some ⟨lb,0,none⟩)
 | 6=>fun u _=>u = .pointer (some ⟨lb,0,none⟩)
 | 7=>fun u _=>u = .pointer (some ⟨lb,0,none⟩)
 | 8=>fun u _=>u = .slice (some ⟨fg,fo,none⟩) fl fc
 | 9=>fun u _=>u = .int .i64 (file:Int)
 | 10=>fun u _=>u = .pointer (some ⟨fg,fo+file*2,none⟩)
 | 11=>fun u _=>u = .pointer (some ⟨fg,fo+file*2,none⟩)
 | 12=>fun u _=>u = .string nm
 | 13=>fun u _=>u = .slice (some ⟨nB,0,none⟩) 1 1
 | 14=>fun u _=>u=rv
 | 15=>fun u _=>u = .pointer (some ⟨lb,0,none⟩)
 | 16=>fun u _=>u = .pointer (some ⟨lb,2,none⟩)
 | _=>fun _ _=>True
def NrC(_ lb fg fo file _ _ _:Nat)(_:Value)(nm:ByteArray)(cs:Array Value)(_:List Value)(_ w:World):Prop:=Qca w lb cs 91∧w.cell? ⟨fg,fo+file*2,none⟩=some (.string nm)
def NrE(base lb _ _ _ _ _ nq:Nat)(nv:Value)(nm:ByteArray)(_:Array Value)(xs:List Value)(nB:Nat)(rv:Value)(W w:World)(l:Array Bool):Prop:=
 if l.getD 13 false=false then(Qaa (fun _=>False) W w)else
 if l.getD 14 false=false then(Qaa (fun _=>False) W w∧Qca w nB #[.string nm] 9∧W.heap.size≤nB)else
 if l.getD 17 false=false then(w.ownsRow base 9 1 rv (nq+1) (xs++[.string nm])∧Qaa (fun b=>nv.ownBlock=some b) W w∧Q5c W nv rv)else
 ∃w3,w=w3.setCell ⟨lb,2,none⟩ rv∧w3.ownsRow base 9 1 rv (nq+1) (xs++[.string nm])∧Qaa (fun b=>nv.ownBlock=some b) W w3∧Q5c W nv rv
section
variable{base lb fg fo file fl fc nq:Nat}{nv:Value}{nm:ByteArray}{cs:Array Value}{xs:List Value}{nB:Nat}{rv:Value}{W w:World}{l:Array Bool}
theorem NrE.other{j:Nat}(h:NrE base lb fg fo file fl fc nq nv nm cs xs nB rv W w l)(n0:j≠13)(n1:j≠14)(n2:j≠17):NrE base lb fg fo file fl fc nq nv nm cs xs nB rv W w (l.setIfInBounds j true):=by
 unfold NrE at h ⊢
 rw[Qea n0,Qea n1,Qea n2]
 exact h
theorem NrE.at0(h:NrE base lb fg fo file fl fc nq nv nm cs xs nB rv W w l)(no:l.getD 13 false=false):Qaa (fun _=>False) W w:=by
 unfold NrE at h
 rw[no,if_pos rfl]at h
 exact h
theorem NrE.to0(hs:13<l.size)(no:l.getD 14 false=false)(h:Qaa (fun _=>False) W w∧Qca w nB #[.string nm] 9∧W.heap.size≤nB):NrE base lb fg fo file fl fc nq nv nm cs xs nB rv W w (l.setIfInBounds 13 true):=by
 unfold NrE
 rw[Qlb hs,if_neg (by simp)]
 rw[Qea (show 13≠14 by decide),no,if_pos rfl]
 exact h
theorem NrE.at1(h:NrE base lb fg fo file fl fc nq nv nm cs xs nB rv W w l)(y0:l.getD 13 false=true)(no:l.getD 14 false=false):Qaa (fun _=>False) W w∧Qca w nB #[.string nm] 9∧W.heap.size≤nB:=by
 unfold NrE at h
 rw[y0,if_neg (by simp)]at h
 rw[no,if_pos rfl]at h
 exact h
theorem NrE.to1(y0:l.getD 13 false=true)(hs:14<l.size)(no:l.getD 17 false=false)(h:w.ownsRow base 9 1 rv (nq+1) (xs++[.string nm])∧Qaa (fun b=>nv.ownBlock=some b) W w∧Q5c W nv rv):NrE base lb fg fo file fl fc nq nv nm cs xs nB rv W w (l.setIfInBounds 14 true):=by
 unfold NrE
 rw[Qea (show 14≠13 by decide),y0,if_neg (by simp)]
 rw[Qlb hs,if_neg (by simp)]
 rw[Qea (show 14≠17 by decide),no,if_pos rfl]
 exact h
theorem NrE.at2(h:NrE base lb fg fo file fl fc nq nv nm cs xs nB rv W w l)(y0:l.getD 13 false=true)(y1:l.getD 14 false=true)(no:l.getD 17 false=false):w.ownsRow base 9 1 rv (nq+1) (xs++[.string nm])∧Qaa (fun b=>nv.ownBlock=some b) W w∧Q5c W nv rv:=by
 unfold NrE at h
 rw[y0,if_neg (by simp)]at h
 rw[y1,if_neg (by simp)]at h
 rw[no,if_pos rfl]at h
 exact h
theorem NrE.to2(y0:l.getD 13 false=true)(y1:l.getD 14 false=true)(hs:17<l.size)(h:∃w3,w=w3.setCell ⟨lb,2,none⟩ rv∧w3.ownsRow base 9 1 rv (nq+1) (xs++[.string nm])∧Qaa (fun b=>nv.ownBlock=some b) W w3∧Q5c W nv rv):NrE base lb fg fo file fl fc nq nv nm cs xs nB rv W w (l.setIfInBounds 17 true):=by
 unfold NrE
 rw[Qea (show 17≠13 by decide),y0,if_neg (by simp)]
 rw[Qea (show 17≠14 by decide),y1,if_neg (by simp)]
 rw[Qlb hs,if_neg (by simp)]
 exact h
theorem NrF.ghost0{nB':Nat}{j:Nat}{u:Value}(h:NrF base lb fg fo file fl fc nq nv nm cs xs nB rv j u w)(n0:j≠13):NrF base lb fg fo file fl fc nq nv nm cs xs nB' rv j u w:=by
 unfold NrF at *
 split at h
 all_goals first
  | exact h
  | exact absurd rfl n0
theorem NrF.ghost1{rv':Value}{j:Nat}{u:Value}(h:NrF base lb fg fo file fl fc nq nv nm cs xs nB rv j u w)(n0:j≠14):NrF base lb fg fo file fl fc nq nv nm cs xs nB rv' j u w:=by
 unfold NrF at *
 split at h
 all_goals first
  | exact h
  | exact absurd rfl n0
theorem NrF.world{j:Nat}{u:Value}{w':World}(h:NrF base lb fg fo file fl fc nq nv nm cs xs nB rv j u w):NrF base lb fg fo file fl fc nq nv nm cs xs nB rv j u w':=by
 unfold NrF at *
 split at h
 all_goals exact h
end
set_option maxRecDepth 100000 in
theorem QPj{Q:Exit→Act→World→Prop}(base lb fg fo file fl fc nq:Nat)(nv:Value)(nm:ByteArray)(cs:Array Value)(xs:List Value)(W w:World)(A:Act)(gn:A.tmps.size=206)(hcs2:cs[2]? = some nv)(hcs0:cs[0]? = some (.slice (some ⟨fg,fo,none⟩) fl fc))(hnv:W.ownsRow base 9 1 nv nq xs)(mj:nq≤1000)(mg:file<fl)(gV:base≤W.heap.size)(jk:nv.ownBlock≠some lb)(hnf:nv.ownBlock≠some fg)
 (a0:A.tmps.getD 0 undef = .pointer (some ⟨lb,0,none⟩)) (a1:A.tmps.getD 1 undef = .int .i64 (file:Int)) (hC0:NrC base lb fg fo file fl fc nq nv nm cs xs W w) (hE0:Qaa (fun _=>False) W w)
 (hQ:∀c w' (nB:Nat) (rv:Value),Q1d Qtd A c→(∃w3,w'=w3.setCell ⟨lb,2,none⟩ rv∧w3.ownsRow base 9 1 rv (nq+1) (xs++[.string nm])∧Qaa (fun b=>nv.ownBlock=some b) W w3∧Q5c W nv rv)→Q .normal c w') :
 wpAny Tryz.prog .any Qtd Q Qtd.size (Array.replicate Qtd.size false) A w:=by
 refine Qzd (fun l c wx=>∃nB rv,Qqe Qtd A (NrF base lb fg fo file fl fc nq nv nm cs xs nB rv) (fun _=>True) l c wx∧(l.getD 17 false=false→NrC base lb fg fo file fl fc nq nv nm cs xs W wx)∧NrE base lb fg fo file fl fc nq nv nm cs xs nB rv W wx l) nrR ?gj ?KS _ _ _ _ (by simp) (by simp) ⟨0,.slice none 0 0,Qqe.start trivial,fun _=>hC0,by unfold NrE;rw[if_pos (Qbr _ _)];exact hE0⟩
 case gj=>
  rintro l c wx ⟨nB,rv,hI,hC,hE⟩ hl
  have hh:∀k,k<18→l.getD k false=true:=fun k hk=>hl k (by rw[Qwr];exact hk)
  have xt:∃w3,wx=w3.setCell ⟨lb,2,none⟩ rv∧w3.ownsRow base 9 1 rv (nq+1) (xs++[.string nm])∧Qaa (fun b=>nv.ownBlock=some b) W w3∧Q5c W nv rv:=by
   unfold NrE at hE
   rw[hh 13 (by decide),if_neg (by simp)]at hE
   rw[hh 14 (by decide),if_neg (by simp)]at hE
   rw[hh 17 (by decide),if_neg (by simp)]at hE
   exact hE
  exact hQ c wx nB rv hI.1.1 xt
 intro l c wx cT i' op ho hl Ha K' hK'
 obtain⟨nB,rv,hI,hC,hE⟩:=cT
 have ak:l.size=18:=by rw[hI.1.2.2.1.1,Qwr]
 have hi':i'<18:=by rw[←Qwr];exact(Array.getElem?_eq_some_iff.1 ho).1
 have gG:=ho
 simp only[Qtd,Qfc,Tryz.f77,Option.getD_some,reduceIte,Nat.reduceEqDiff]at ho
 have s0:=(hI.slot 0 (by kernel_rfl)).trans a0
 have s1:=(hI.slot 1 (by kernel_rfl)).trans a1
 have fs:=And.intro True.intro True.intro
 simp only[Array.getD_eq_getD_getElem?]at s0 s1
 have dh:i'=0∨i'=1∨i'=2∨i'=3∨i'=4∨i'=5∨i'=6∨i'=7∨i'=8∨i'=9∨i'=10∨i'=11∨i'=12∨i'=13∨i'=14∨i'=15∨i'=16∨i'=17:=by omega
 clear hi'
 rcases dh with rfl|rfl|rfl|rfl|rfl|rfl|rfl|rfl|rfl|rfl|rfl|rfl|rfl|rfl|rfl|rfl|rfl|rfl
 all_goals cases ho
 ·go_simp
  exact hK' _ _ ⟨nB,rv,hI.step QUi 0 114 rfl (by rw[gn];decide) _ _ gG Ha trivial (fun _ _ h=>h) rfl,(fun h=>hC (Q5a h)),hE.other (by decide) (by decide) (by decide)⟩
 ·go_simp
  exact hK' _ _ ⟨nB,rv,hI.step QUi 1 115 rfl (by rw[gn];decide) _ _ gG Ha trivial (fun _ _ h=>h) rfl,(fun h=>hC (Q5a h)),hE.other (by decide) (by decide) (by decide)⟩
 ·have e1:c.tmps.getD 115 undef = .pointer (some ⟨lb,0,none⟩):=hI.fact 1 115 rfl (hI.1.2.2.1.2.yes_far 18 gG Ha (by decide) (by kernel_rfl))
  have f1:=e1
  simp only[Array.getD_eq_getD_getElem?]at e1
  go_simp
  exact hK' _ _ ⟨nB,rv,hI.step QUi 2 116 rfl (by rw[gn];decide) _ _ gG Ha trivial (fun _ _ h=>h) rfl,(fun h=>hC (Q5a h)),hE.other (by decide) (by decide) (by decide)⟩
 ·have e2:c.tmps.getD 116 undef = .pointer (some ⟨lb,0,none⟩):=hI.fact 2 116 rfl (hI.1.2.2.1.2.yes_far 18 gG Ha (by decide) (by kernel_rfl))
  have f2:=e2
  simp only[Array.getD_eq_getD_getElem?]at e2
  go_simp
  exact hK' _ _ ⟨nB,rv,hI.step QUi 3 117 rfl (by rw[gn];decide) _ _ gG Ha trivial (fun _ _ h=>h) rfl,(fun h=>hC (Q5a h)),hE.other (by decide) (by decide) (by decide)⟩
 ·have e3:c.tmps.getD 117 undef = .pointer (some ⟨lb,2,none⟩):=hI.fact 3 117 rfl (hI.1.2.2.1.2.yes_far 18 gG Ha (by decide) (by kernel_rfl))
  have f3:=e3
  simp only[Array.getD_eq_getD_getElem?]at e3
  have hc:=hC (hI.1.2.2.1.2.no_far 18 hl (by kernel_rfl:QXd Qtd 18 17 4=true))
  have x0:=(hc.1.cell 2).trans hcs2
  have xl:=hc.1.lt
  go_simp
  exact hK' _ _ ⟨nB,rv,hI.step QUi 4 118 rfl (by rw[gn];decide) _ _ gG Ha trivial (fun _ _ h=>h) rfl,(fun h=>hC (Q5a h)),hE.other (by decide) (by decide) (by decide)⟩
 ·go_simp
  exact hK' _ _ ⟨nB,rv,hI.step QUi 5 119 rfl (by rw[gn];decide) _ _ gG Ha trivial (fun _ _ h=>h) rfl,(fun h=>hC (Q5a h)),hE.other (by decide) (by decide) (by decide)⟩
 ·have e5:c.tmps.getD 119 undef = .pointer (some ⟨lb,0,none⟩):=hI.fact 5 119 rfl (hI.1.2.2.1.2.yes_far 18 gG Ha (by decide) (by kernel_rfl))
  have f5:=e5
  simp only[Array.getD_eq_getD_getElem?]at e5
  go_simp
  exact hK' _ _ ⟨nB,rv,hI.step QUi 6 120 rfl (by rw[gn];decide) _ _ gG Ha trivial (fun _ _ h=>h) rfl,(fun h=>hC (Q5a h)),hE.other (by decide) (by decide) (by decide)⟩
 ·have e6:c.tmps.getD 120 undef = .pointer (some ⟨lb,0,none⟩):=hI.fact 6 120 rfl (hI.1.2.2.1.2.yes_far 18 gG Ha (by decide) (by kernel_rfl))
  have f6:=e6
  simp only[Array.getD_eq_getD_getElem?]at e6
  go_simp
  exact hK' _ _ ⟨nB,rv,hI.step QUi 7 121 rfl (by rw[gn];decide) _ _ gG Ha trivial (fun _ _ h=>h) rfl,(fun h=>hC (Q5a h)),hE.other (by decide) (by decide) (by decide)⟩
 ·have e7:c.tmps.getD 121 undef = .pointer (some ⟨lb,0,none⟩):=hI.fact 7 121 rfl (hI.1.2.2.1.2.yes_far 18 gG Ha (by decide) (by kernel_rfl))
  have f7:=e7
  simp only[Array.getD_eq_getD_getElem?]at e7
  have hc:=hC (hI.1.2.2.1.2.no_far 18 hl (by kernel_rfl:QXd Qtd 18 17 8=true))
  have x0:=(hc.1.cell 0).trans hcs0
  have xl:=hc.1.lt
  go_simp
  exact hK' _ _ ⟨nB,rv,hI.step QUi 8 122 rfl (by rw[gn];decide) _ _ gG Ha trivial (fun _ _ h=>h) rfl,(fun h=>hC (Q5a h)),hE.other (by decide) (by decide) (by decide)⟩
 ·go_simp
  exact hK' _ _ ⟨nB,rv,hI.step QUi 9 123 rfl (by rw[gn];decide) _ _ gG Ha trivial (fun _ _ h=>h) rfl,(fun h=>hC (Q5a h)),hE.other (by decide) (by decide) (by decide)⟩
 ·have e8:c.tmps.getD 122 undef = .slice (some ⟨fg,fo,none⟩) fl fc:=hI.fact 8 122 rfl (hI.1.2.2.1.2.yes_far 18 gG Ha (by decide) (by kernel_rfl))
  have f8:=e8
  simp only[Array.getD_eq_getD_getElem?]at e8
  have e9:c.tmps.getD 123 undef = .int .i64 (file:Int):=hI.fact 9 123 rfl (hI.1.2.2.1.2.yes_far 18 gG Ha (by decide) (by kernel_rfl))
  have f9:=e9
  simp only[Array.getD_eq_getD_getElem?]at e9
  have hb:(file:Int)<(fl:Int):=by omega
  go_simp
  exact hK' _ _ ⟨nB,rv,hI.step QUi 10 124 rfl (by rw[gn];decide) _ _ gG Ha trivial (fun _ _ h=>h) rfl,(fun h=>hC (Q5a h)),hE.other (by decide) (by decide) (by decide)⟩
 ·have e10:c.tmps.getD 124 undef = .pointer (some ⟨fg,fo+file*2,none⟩):=hI.fact 10 124 rfl (hI.1.2.2.1.2.yes_far 18 gG Ha (by decide) (by kernel_rfl))
  have f10:=e10
  simp only[Array.getD_eq_getD_getElem?]at e10
  go_simp
  exact hK' _ _ ⟨nB,rv,hI.step QUi 11 125 rfl (by rw[gn];decide) _ _ gG Ha trivial (fun _ _ h=>h) rfl,(fun h=>hC (Q5a h)),hE.other (by decide) (by decide) (by decide)⟩
 ·have e11:c.tmps.getD 125 undef = .pointer (some ⟨fg,fo+file*2,none⟩):=hI.fact 11 125 rfl (hI.1.2.2.1.2.yes_far 18 gG Ha (by decide) (by kernel_rfl))
  have f11:=e11
  simp only[Array.getD_eq_getD_getElem?]at e11
  have hc:=hC (hI.1.2.2.1.2.no_far 18 hl (by kernel_rfl:QXd Qtd 18 17 12=true))
  have x0:=hc.2
  have xl:=World.block_lt_of_cell? wx _ hc.2
  go_simp
  exact hK' _ _ ⟨nB,rv,hI.step QUi 12 126 rfl (by rw[gn];decide) _ _ gG Ha trivial (fun _ _ h=>h) rfl,(fun h=>hC (Q5a h)),hE.other (by decide) (by decide) (by decide)⟩
 ·have e12:c.tmps.getD 126 undef = .string nm:=hI.fact 12 126 rfl (hI.1.2.2.1.2.yes_far 18 gG Ha (by decide) (by kernel_rfl))
  have f12:=e12
  simp only[Array.getD_eq_getD_getElem?]at e12
  have hc:=hC (hI.1.2.2.1.2.no_far 18 hl (by kernel_rfl:QXd Qtd 18 17 13=true))
  have hp:=hE.at0 hl
  have un:=hI.1.2.2.1.2.no_far 18 hl (by kernel_rfl:QXd Qtd 18 14 13=true)
  have cz:Qaa (fun _=>False) W (wx.alloc (.cells #[.string nm] 9))∧Qca (wx.alloc (.cells #[.string nm] 9)) wx.heap.size #[.string nm] 9∧W.heap.size≤wx.heap.size:=⟨hp.alloc _,Qca.new _ _ _,hp.size⟩
  have kO:NrC base lb fg fo file fl fc nq nv nm cs xs W (wx.alloc (.cells #[.string nm] 9)):=⟨hc.1.alloc _,(((Qaa.refl (fun _=>False) wx).alloc _).cell (p:=⟨fg,fo+file*2,none⟩) (World.block_lt_of_cell? wx _ hc.2) (fun e=>e)).trans hc.2⟩
  go_simp
  have hJ:Qqe Qtd A (NrF base lb fg fo file fl fc nq nv nm cs xs (wx.heap.size) rv) (fun _=>True) l c wx:=⟨hI.1.other (fun j hj u hF=>NrF.ghost0 hF (QHc hj hl)),hI.2⟩
  exact hK' _ _ ⟨wx.heap.size,_,hJ.step QUi 13 127 rfl (by rw[gn];decide) _ _ gG Ha trivial (fun _ _ h=>NrF.world h) rfl,fun _=>kO,NrE.to0 (by rw[ak];decide) un cz⟩
 ·have e4:c.tmps.getD 118 undef=nv:=hI.fact 4 118 rfl (hI.1.2.2.1.2.yes_far 18 gG Ha (by decide) (by kernel_rfl))
  have f4:=e4
  simp only[Array.getD_eq_getD_getElem?]at e4
  have e13:c.tmps.getD 127 undef = .slice (some ⟨nB,0,none⟩) 1 1:=hI.fact 13 127 rfl (hI.1.2.2.1.2.yes_far 18 gG Ha (by decide) (by kernel_rfl))
  have f13:=e13
  simp only[Array.getD_eq_getD_getElem?]at e13
  have hc:=hC (hI.1.2.2.1.2.no_far 18 hl (by kernel_rfl:QXd Qtd 18 17 14=true))
  have y0:l.getD 13 false=true:=hI.1.2.2.1.2.yes_far 18 gG Ha (by decide) (by kernel_rfl)
  have hp:=hE.at1 y0 hl
  have un:=hI.1.2.2.1.2.no_far 18 hl (by kernel_rfl:QXd Qtd 18 17 14=true)
  obtain⟨iq,yj,hpN⟩:=hp
  obtain⟨i1,hi,GE,GF,GA⟩:=info_parts QIk
  refine QQb wx rfl (.tmp 118) (.tmp 127) 39 39 rfl base 9 i1 _ 1 16 Tryz.underlying39 hi GE GF GA rfl nv nq xs (by exact f4) (Qba hnv iq (fun _ _ e=>e)) _ (by exact f13) 1 [.string nm] (QFo yj) (by unfold maxLen;omega) (by omega) (Nat.le_trans gV iq.size) ?_
  intro v3 w2 Hi Hb Gg
  have kg:Qaa (fun b=>nv.ownBlock=some b) wx w2:=Qaa.of_grown Hb (fun i e=>e)
  have iE:=iq.size
  have cz:w2.ownsRow base 9 1 v3 (nq+1) (xs++[.string nm])∧Qaa (fun b=>nv.ownBlock=some b) W w2∧Q5c W nv v3:=⟨Hi,(iq.mono (S:=fun b=>nv.ownBlock=some b) (fun _ _ e=>e.elim)).trans kg (fun _ _ e=>e),fun g hg=>by rcases Gg with e|e;exact .inl (e ▸ hg);rw[e]at hg;cases hg;exact .inr iE⟩
  have kO:NrC base lb fg fo file fl fc nq nv nm cs xs W w2:=⟨hc.1.keeps kg jk,(kg.cell (p:=⟨fg,fo+file*2,none⟩) (World.block_lt_of_cell? wx _ hc.2) hnf).trans hc.2⟩
  have hJ:Qqe Qtd A (NrF base lb fg fo file fl fc nq nv nm cs xs nB (v3)) (fun _=>True) l c wx:=⟨hI.1.other (fun j hj u hF=>NrF.ghost1 hF (QHc hj hl)),hI.2⟩
  exact hK' _ _ ⟨_,v3,hJ.step QUi 14 128 rfl (by rw[gn];decide) _ _ gG Ha trivial (fun _ _ h=>NrF.world h) rfl,fun _=>kO,NrE.to1 y0 (by rw[ak];decide) un cz⟩
 ·have e0:c.tmps.getD 114 undef = .pointer (some ⟨lb,0,none⟩):=hI.fact 0 114 rfl (hI.1.2.2.1.2.yes_far 18 gG Ha (by decide) (by kernel_rfl))
  have f0:=e0
  simp only[Array.getD_eq_getD_getElem?]at e0
  go_simp
  exact hK' _ _ ⟨nB,rv,hI.step QUi 15 129 rfl (by rw[gn];decide) _ _ gG Ha trivial (fun _ _ h=>h) rfl,(fun h=>hC (Q5a h)),hE.other (by decide) (by decide) (by decide)⟩
 ·have e15:c.tmps.getD 129 undef = .pointer (some ⟨lb,0,none⟩):=hI.fact 15 129 rfl (hI.1.2.2.1.2.yes_far 18 gG Ha (by decide) (by kernel_rfl))
  have f15:=e15
  simp only[Array.getD_eq_getD_getElem?]at e15
  go_simp
  exact hK' _ _ ⟨nB,rv,hI.step QUi 16 130 rfl (by rw[gn];decide) _ _ gG Ha trivial (fun _ _ h=>h) rfl,(fun h=>hC (Q5a h)),hE.other (by decide) (by decide) (by decide)⟩
 ·have e14:c.tmps.getD 128 undef=rv:=hI.fact 14 128 rfl (hI.1.2.2.1.2.yes_far 18 gG Ha (by decide) (by kernel_rfl))
  have f14:=e14
  simp only[Array.getD_eq_getD_getElem?]at e14
  have e16:c.tmps.getD 130 undef = .pointer (some ⟨lb,2,none⟩):=hI.fact 16 130 rfl (hI.1.2.2.1.2.yes_far 18 gG Ha (by decide) (by kernel_rfl))
  have f16:=e16
  simp only[Array.getD_eq_getD_getElem?]at e16
  have hc:=hC (hI.1.2.2.1.2.no_far 18 hl (by kernel_rfl:QXd Qtd 18 17 17=true))
  have y0:l.getD 13 false=true:=hI.1.2.2.1.2.yes_far 18 gG Ha (by decide) (by kernel_rfl)
  have y1:l.getD 14 false=true:=hI.1.2.2.1.2.yes_far 18 gG Ha (by decide) (by kernel_rfl)
  have hp:=hE.at2 y0 y1 hl
  obtain⟨a2,c2,rfl⟩:=Qia hp.1
  have x0:=(hc.1.cell 2).trans hcs2
  have x1:=hc.1.free 2
  have x2:=hc.1.lt
  go_simp
  have cz:=(⟨_,rfl,hp.1,hp.2⟩:∃w3,wx.setCell ⟨lb,2,none⟩ (.slice a2 (nq+1) c2)=w3.setCell ⟨lb,2,none⟩ (.slice a2 (nq+1) c2)∧w3.ownsRow base 9 1 (.slice a2 (nq+1) c2) (nq+1) (xs++[.string nm])∧Qaa (fun b=>nv.ownBlock=some b) W w3∧Q5c W nv (.slice a2 (nq+1) c2))
  exact hK' _ _ ⟨_,_,hI.stepN 17 rfl _ gG Ha trivial (fun _ _ h=>NrF.world h) trivial,fun h=>absurd h (by rw[Qlb (by rw[ak];decide)];simp),NrE.to2 y0 y1 (by rw[ak];decide) cz⟩
theorem Qvi{w:World}{b:Nat}{cs:Array Value}{t:TypeId}(h:Qca w b cs t):∀(j:Nat) (u:Value),cs.toList[j]? = some u→w.cell? ((⟨b,0,none⟩:Addr).add j)=some u:=by
 intro j u hj
 have Kj:(⟨b,0,none⟩:Addr).add j=⟨b,j,none⟩:=by unfold Addr.add;split <;> simp_all
 rw[Kj,h.cell j]
 simpa using hj
def RP(r base:Nat)(file:Int)(L:List Tok)(lv ov:Value)(D:List Qwa)(R:Rs (Nat × QRa))(p:QRa)(w:World):Prop:=(∃k,R = .ok (k,p)∧Q4a w r base file L lv ov k D)∨∃k c,R = .error (k,c)∧QIb w r file L k c
theorem RP.keeps{w w':World}{r base:Nat}{file:Int}{L:List Tok}{lv ov:Value}{D:List Qwa}{R:Rs (Nat × QRa)}{p:QRa}(h:RP r base file L lv ov D R p w)(k:Qaa (fun _=>False) w w'):RP r base file L lv ov D R p w':=by
 rcases h with⟨j,e1,e3⟩|⟨k',c,e1,e2⟩
 ·exact .inl ⟨j,e1,e3.keeps k⟩
 ·exact .inr ⟨k',c,e1,e2.keeps k (fun e=>e)⟩
theorem RP.turn{W w w':World}{r base i:Nat}{file:Int}{L:List Tok}{lv ov:Value}{D:List Qwa}{R:Rs (Nat × QRa)}{p:QRa}(h:RP r base file L lv ov D R p w)(h0:Q4a W r base file L lv ov i D)(GV:∀k q,R = .ok (k,q)→i≤k)(k:Qaa (· = r) W w')(ho:∀{xs:Array Value},Qca w r xs 78→Qca w' r xs 78):RP r base file L lv ov D R p w':=by
 rcases h with⟨j,e1,e3⟩|⟨k',c,e1,e0,lv',x',ov',hx⟩
 ·exact .inl ⟨j,e1,h0.turn k (ho e3.holds) e3.lt (GV j p e1)⟩
 ·exact .inr ⟨k',c,e1,e0,lv',x',ov',ho hx⟩
structure PaE(r base Z:Nat)(file:Int)(L:List Tok)(lv ov cv d0 d1 d2 d4 d5 d6:Value)(D:List Qwa)(j:Nat)(acc:List QRa)(vs:List Value)(W:World)(p:QRa)(pv:Value)(B:Nat)(v8:Value)(l:Array Bool)(w:World):Prop where
 n3:l.getD 3 false=false→Q4a w r base file L lv ov j D
 y3:l.getD 3 false=true→RP r base file L lv ov D (Qsb L j) p w∧Qfa w base pv p.cells
 row:l.getD 5 false=false→w.ownsRow W.heap.size 75 3 cv acc.length (QDa acc vs)
 sub:∀k (h:k<acc.length) (h2:k<vs.length),Qfa w base vs[k] acc[k].cells
 n7:l.getD 7 false=false→Qca w Z #[d0,d1,d2,cv,d4,d5,d6] 34
 b4:l.getD 4 false=true→l.getD 5 false=false→Qca w B #[.int .i64 p.kind,pv,.string p.text] 75
 r5:l.getD 5 false=true→w.ownsRow W.heap.size 75 3 v8 (acc.length+1) (QDa acc vs++[.int .i64 p.kind,pv,.string p.text])
 y7:l.getD 7 false=true→Qca w Z #[d0,d1,d2,v8,d4,d5,d6] 34
def PaF(r Z:Nat)(cv:Value)(p:QRa)(pv:Value)(B:Nat)(v8:Value)(j:Nat):Value→World→Prop:=match j with
 | 0=>fun u _=>u = .pointer (some ⟨Z,3,none⟩)
 | 1=>fun u _=>u=cv
 | 2=>fun u _=>u = .pointer (some ⟨r,0,none⟩)
 | 3=>fun u _=>u = .agg #[.int .i64 p.kind,pv,.string p.text]
 | 4=>fun u _=>u = .slice (some ⟨B,0,none⟩) 1 1
 | 5=>fun u _=>u=v8
 | 6=>fun u _=>u = .pointer (some ⟨Z,3,none⟩)
 | _=>fun _ _=>True
section
variable{r Z B j:Nat}{cv pv v8:Value}{p:QRa}{w w':World}{u:Value}
theorem PaF.world(h:PaF r Z cv p pv B v8 j u w):PaF r Z cv p pv B v8 j u w':=by
 unfold PaF at *
 split at h
 all_goals exact h
theorem PaF.gh_p{x:QRa}{y:Value}(h:PaF r Z cv p pv B v8 j u w)(n3:j≠3):PaF r Z cv x y B v8 j u w:=by
 unfold PaF at *
 split at h
 all_goals first
  | exact h
  | exact absurd rfl n3
theorem PaF.gh_B{x:Nat}(h:PaF r Z cv p pv B v8 j u w)(n4:j≠4):PaF r Z cv p pv x v8 j u w:=by
 unfold PaF at *
 split at h
 all_goals first
  | exact h
  | exact absurd rfl n4
theorem PaF.gh_v{x:Value}(h:PaF r Z cv p pv B v8 j u w)(n5:j≠5):PaF r Z cv p pv B x j u w:=by
 unfold PaF at *
 split at h
 all_goals first
  | exact h
  | exact absurd rfl n5
end
section
variable{r base Z:Nat}{file:Int}{L:List Tok}{lv ov cv d0 d1 d2 d4 d5 d6:Value}{D:List Qwa}{j:Nat}{acc:List QRa}{vs:List Value}{W:World}{p:QRa}{pv:Value}{B:Nat}{v8:Value}{l:Array Bool}{w:World}{q:Nat}
theorem PaE.put(h:PaE r base Z file L lv ov cv d0 d1 d2 d4 d5 d6 D j acc vs W p pv B v8 l w)(n3:q≠3)(n4:q≠4)(n5:q≠5)(n7:q≠7):PaE r base Z file L lv ov cv d0 d1 d2 d4 d5 d6 D j acc vs W p pv B v8 (l.setIfInBounds q true) w:=by
 constructor
 ·rw[Qea n3];exact h.n3
 ·rw[Qea n3];exact h.y3
 ·rw[Qea n5];exact h.row
 ·exact h.sub
 ·rw[Qea n7];exact h.n7
 ·rw[Qea n4,Qea n5];exact h.b4
 ·rw[Qea n5];exact h.r5
 ·rw[Qea n7];exact h.y7
end
theorem QMf{n j:Nat}:(Array.replicate n false).getD j false=false:=by
 rw[Array.getD_eq_getD_getElem?]
 by_cases h:j<n
 ·rw[Array.getElem?_replicate,if_pos h];rfl
 ·rw[Array.getElem?_replicate,if_neg h];rfl
theorem QOk{w:World}{lo base:Nat}{v8 pv:Value}{acc:List QRa}{vs:List Value}{p:QRa}(ky:vs.length=acc.length)(Hc:w.ownsRow lo 75 3 v8 (acc.length+1) (QDa acc vs++[.int .i64 p.kind,pv,.string p.text]))(gf:∀k (h:k<acc.length) (h2:k<vs.length),Qfa w base vs[k] acc[k].cells)(hC:Qfa w base pv p.cells):QEb w lo base v8 (acc++[p]):=by
 refine⟨vs++[pv],by simp[ky],?_,fun m hm dr=>?_⟩
 ·rw[Qld acc vs p _ ky,List.length_append]
  exact Hc
 ·by_cases e:m<acc.length
  ·rw[List.getElem_append_left (by omega),List.getElem_append_left e]
   exact gf m e (by omega)
  ·have jT:m=acc.length:=by simp at hm;omega
   subst jT
   rw[List.getElem_append_right (by omega),List.getElem_append_right (by omega)]
   simp only[ky,Nat.sub_self,List.getElem_cons_zero]
   exact hC
noncomputable def QZd:Array Oper:=(Qfc (Tryz.f109.body.getD .skip) 24).getD #[]
theorem phR:QJf .any QZd=true:=by kernel_rfl
theorem QMp:QGf QZd=true:=by kernel_rfl
theorem Qyr:QZd.size=8:=by kernel_rfl
set_option maxRecDepth 100000 in
theorem Q1i{Q:Exit→Act→World→Prop}(r base Z:Nat)(file:Int)(L:List Tok)(lv ov cv d0 d1 d2 d4 d5 d6:Value)(D:List Qwa)(i j:Nat)(acc:List QRa)(vs:List Value)(W w:World)(A:Act)(gn:A.tmps.size=191)
 (h0:Q4a W r base file L lv ov i D) (GV:i≤j) (hw:Q4a w r base file L lv ov j D) (hZ:Qca w Z #[d0,d1,d2,cv,d4,d5,d6] 34) (M3:Z≠r) (hZW:W.heap.size≤Z) (ky:vs.length=acc.length) (Hc:w.ownsRow W.heap.size 75 3 cv acc.length (QDa acc vs)) (gf:∀k (h:k<acc.length) (h2:k<vs.length),Qfa w base vs[k] acc[k].cells) (cu:acc.length≤10000)
 (a0:A.tmps.getD 0 undef = .pointer (some ⟨r,0,none⟩)) (a7:A.tmps.getD 7 undef = .pointer (some ⟨Z,0,none⟩)) (hS0:Qaa (· = r) W w)
 (hQ:∀c w' p v8,Q1d QZd A c→Qaa (· = r) W w'→Qca w' Z #[d0,d1,d2,v8,d4,d5,d6] 34→QEb w' W.heap.size base v8 (acc++[p])→RP r base file L lv ov D (Qsb L j) p w'→Q .normal c w') :
 wpAny Tryz.prog .any QZd Q QZd.size (Array.replicate QZd.size false) A w:=by
 have Hh:∀k q,Qsb L j = .ok (k,q)→i≤k:=fun k q e=>by have:=QGe e;omega
 refine Qzd (fun l c wx=>∃p pv B v8,QPf QZd A (PaF r Z cv p pv B v8) (fun wx=>Qaa (· = r) W wx) l c wx∧PaE r base Z file L lv ov cv d0 d1 d2 d4 d5 d6 D j acc vs W p pv B v8 l wx) phR ?gj ?KS _ _ _ _ (by simp) (by simp)
  ⟨⟨0,[],⟨#[]⟩⟩,.slice none 0 0,0,.slice none 0 0,QPf.start hS0,⟨fun _=>hw,fun h=>by rw[QMf]at h;(cases h),fun _=>Hc,gf,fun _=>hZ,fun h=>by rw[QMf]at h;(cases h),fun h=>by rw[QMf]at h;(cases h),fun h=>by rw[QMf]at h;(cases h)⟩⟩
 case gj=>
  rintro l c wx ⟨p,pv,B,v8,hI,hE⟩ hl
  have hh:∀k,k<8→l.getD k false=true:=fun k hk=>hl k (by rw[Qyr];exact hk)
  obtain⟨q1,q2⟩:=hE.y3 (hh 3 (by decide))
  exact hQ c wx p v8 hI.1 hI.2.1 (hE.y7 (hh 7 (by decide))) (QOk ky (hE.r5 (hh 5 (by decide))) hE.sub q2) q1
 intro l c wx cT i' op ho hl Ha K' hK'
 obtain⟨p,pv,B,v8,hI,hE⟩:=cT
 have ak:l.size=8:=by rw[hI.2.2.1.1,Qyr]
 have hi':i'<8:=by rw[←Qyr];exact(Array.getElem?_eq_some_iff.1 ho).1
 have gG:=ho
 simp only[QZd,Qfc,Tryz.f109,Option.getD_some,reduceIte,Nat.reduceEqDiff]at ho
 have hS:=hI.2.1
 have s0:=(hI.slot 0 (by kernel_rfl)).trans a0
 have s7:=(hI.slot 7 (by kernel_rfl)).trans a7
 simp only[Array.getD_eq_getD_getElem?]at s0 s7
 have dh:i'=0∨i'=1∨i'=2∨i'=3∨i'=4∨i'=5∨i'=6∨i'=7:=by omega
 clear hi'
 rcases dh with rfl|rfl|rfl|rfl|rfl|rfl|rfl|rfl
 all_goals cases ho
 ·go_simp
  exact hK' _ _ ⟨p,pv,B,v8,hI.step QMp 0 156 rfl (by rw[gn];decide) _ _ gG Ha hS (fun _ _ h=>PaF.world h) rfl,hE.put (by decide) (by decide) (by decide) (by decide)⟩
 ·have u7:=(hI.2.2.1.2.no_far 8 hl (by kernel_rfl:QXd QZd 8 7 1=true))
  have hz:=hE.n7 u7
  have z3:=hz.cell 3
  have zl:=hz.lt
  have e0:c.tmps.getD 156 undef = .pointer (some ⟨Z,3,none⟩):=hI.fact 0 156 rfl (QQa Ha 0 (by kernel_rfl))
  simp only[Array.getD_eq_getD_getElem?]at e0
  go_simp
  exact hK' _ _ ⟨p,pv,B,v8,hI.step QMp 1 157 rfl (by rw[gn];decide) _ _ gG Ha hS (fun _ _ h=>PaF.world h) rfl,hE.put (by decide) (by decide) (by decide) (by decide)⟩
 ·go_simp
  exact hK' _ _ ⟨p,pv,B,v8,hI.step QMp 2 158 rfl (by rw[gn];decide) _ _ gG Ha hS (fun _ _ h=>PaF.world h) rfl,hE.put (by decide) (by decide) (by decide) (by decide)⟩
 ·have hr:=hE.n3 hl
  have e2:c.tmps.getD 158 undef = .pointer (some ⟨r,0,none⟩):=hI.fact 2 158 rfl (QQa Ha 2 (by kernel_rfl))
  simp only[Array.getD_eq_getD_getElem?]at e2
  have Mn:=QRk wx r base file L lv ov j D hr
  have u4:=(hI.2.2.1.2.no_far 8 hl (by kernel_rfl:QXd QZd 8 4 3=true))
  have u5:=(hI.2.2.1.2.no_far 8 hl (by kernel_rfl:QXd QZd 8 5 3=true))
  have u7:=(hI.2.2.1.2.no_far 8 hl (by kernel_rfl:QXd QZd 8 7 3=true))
  have Ke:=hE.row u5
  have hz:=hE.n7 u7
  go_simp
  refine Mn.mono ?_
  rintro e w2 ⟨p',ca,cc,rfl,hC,Hp,hm⟩
  have Ka:=hS.trans Hp (fun _ _ e=>e)
  have Kb:=QLa.one hr.holds (by decide) (by decide) (by decide)
  have hJ:=hI.other (F':=PaF r Z cv p' (.slice ca p'.cells.length cc) B v8) (fun j hj u hF=>PaF.gh_p hF (QHc hj hl))
  refine hK' _ _ ⟨p',.slice ca p'.cells.length cc,B,v8,hJ.step QMp 3 159 rfl (by rw[gn];decide) _ _ gG Ha Ka (fun _ _ h=>PaF.world h) rfl,?_⟩
  constructor
  ·intro h;rw[Qlb (by omega)]at h;cases h
  ·intro _
   refine⟨?_,hC⟩
   unfold RP
   cases hp:Qsb L j with
   | ok q=>
    obtain⟨k,q⟩:=q
    rw[hp]at hm
    obtain⟨rfl,ha⟩:=hm
    exact .inl ⟨k,rfl,ha⟩
   | error q=>
    obtain⟨k,c⟩:=q
    rw[hp]at hm
    exact .inr ⟨k,c,rfl,hm⟩
  ·rw[Qea (show 3≠5 by decide)];intro _;exact Qba Ke Hp (Qvd Ke Kb (.inr (.inl rfl)))
  ·exact fun k h h2=>(hE.sub k h h2).keeps Hp Kb
  ·rw[Qea (show 3≠7 by decide)];intro _;exact hz.keeps Hp M3
  ·rw[Qea (show 3≠4 by decide)];intro a;rw[u4]at a;cases a
  ·rw[Qea (show 3≠5 by decide)];intro a;rw[u5]at a;cases a
  ·rw[Qea (show 3≠7 by decide)];intro a;rw[u7]at a;cases a
 ·have u5:=(hI.2.2.1.2.no_far 8 hl (by kernel_rfl:QXd QZd 8 5 4=true))
  have u7:=(hI.2.2.1.2.no_far 8 hl (by kernel_rfl:QXd QZd 8 7 4=true))
  have y3:=QQa Ha 3 (by kernel_rfl)
  have e3:c.tmps.getD 159 undef = .agg #[.int .i64 p.kind,pv,.string p.text]:=hI.fact 3 159 rfl (QQa Ha 3 (by kernel_rfl))
  simp only[Array.getD_eq_getD_getElem?]at e3
  obtain⟨q1,q2⟩:=hE.y3 y3
  have Ke:=hE.row u5
  have hz:=hE.n7 u7
  obtain⟨pa,pc,rfl⟩:=q2.slice
  go_simp
  have Hp:Qaa (fun _=>False) wx (wx.alloc (.cells #[.int .i64 p.kind,.slice pa p.cells.length pc,.string p.text] 75)):=(Qaa.refl _ wx).alloc _
  have Ka:=hS.trans Hp (fun _ _ e=>e.elim)
  have hJ:=hI.other (F':=PaF r Z cv p (.slice pa p.cells.length pc) wx.heap.size v8) (fun j hj u hF=>PaF.gh_B hF (QHc hj hl))
  refine hK' _ _ ⟨p,_,wx.heap.size,v8,hJ.step QMp 4 160 rfl (by rw[gn];decide) _ _ gG Ha Ka (fun _ _ h=>PaF.world h) rfl,?_⟩
  constructor
  ·rw[Qea (show 4≠3 by decide)];intro a;rw[y3]at a;cases a
  ·intro _;exact⟨q1.keeps Hp,q2.keeps Hp (QLa.nil _)⟩
  ·rw[Qea (show 4≠5 by decide)];intro _;exact Qba Ke Hp (fun _ _ e=>e)
  ·exact fun k h h2=>(hE.sub k h h2).keeps Hp (QLa.nil _)
  ·rw[Qea (show 4≠7 by decide)];intro _;exact hz.keeps Hp (fun e=>e)
  ·intro _ _;exact Qca.new _ _ _
  ·rw[Qea (show 4≠5 by decide)];intro a;rw[u5]at a;cases a
  ·rw[Qea (show 4≠7 by decide)];intro a;rw[u7]at a;cases a
 ·have u7:=(hI.2.2.1.2.no_far 8 hl (by kernel_rfl:QXd QZd 8 7 5=true))
  have y3:l.getD 3 false=true:=(hI.2.2.1.2.yes_far 8 gG Ha (by decide) (by kernel_rfl))
  have y4:=QQa Ha 4 (by kernel_rfl)
  have e1:c.tmps.getD 157 undef=cv:=hI.fact 1 157 rfl (QQa Ha 1 (by kernel_rfl))
  simp only[Array.getD_eq_getD_getElem?]at e1
  have e4:c.tmps.getD 160 undef = .slice (some ⟨B,0,none⟩) 1 1:=hI.fact 4 160 rfl (QQa Ha 4 (by kernel_rfl))
  simp only[Array.getD_eq_getD_getElem?]at e4
  obtain⟨q1,q2⟩:=hE.y3 y3
  have Ke:=hE.row hl
  have hz:=hE.n7 u7
  have hb:=hE.b4 y4 hl
  obtain⟨pa,pc,rfl⟩:=q2.slice
  obtain⟨i0,mh,GE,GF,GA⟩:=info_parts QZf
  have My:Src Tryz.prog 3 32 (.slice (some ⟨B,0,none⟩) 1 1) 1 [.int .i64 p.kind,.slice pa p.cells.length pc,.string p.text] wx:=Src.ofSlice _ Tryz.underlying32 _ 1 1 _ rfl (Qvi hb) (fun u hu=>by simp at hu;rcases hu with rfl|rfl|rfl <;> rfl)
  refine QQb _ rfl _ _ 32 32 rfl W.heap.size 75 i0 _ 3 48 Tryz.underlying32 mh GE GF GA rfl cv acc.length (QDa acc vs) (by simpa[Act.eval]using e1) Ke (.slice (some ⟨B,0,none⟩) 1 1) (by simpa[Act.eval]using e4) 1 [.int .i64 p.kind,.slice pa p.cells.length pc,.string p.text] My (by unfold maxLen;omega) (by omega) hS.size ?_
  intro v' w2 Hi Hb Gg
  have kg:Qaa (fun b=>cv.ownBlock=some b) wx w2:=Qaa.of_grown Hb (fun i e=>e)
  have Ka:Qaa (· = r) W w2:=hS.grown Hb (fun g hg=>by have:=(Qpa Ke hg).2.1;left;omega)
  have Hx:∀(v:Value) (cs:List QJb),Qfa wx base v cs→Qfa w2 base v cs:=fun v cs hc=>Qba hc kg (fun g hg e=>by
   obtain⟨_,_,cur,q⟩:=Qpa Ke e
   exact Qua hc q (by decide) hg)
  have hJ:=hI.other (F':=PaF r Z cv p (.slice pa p.cells.length pc) B v') (fun j hj u hF=>PaF.gh_v hF (QHc hj hl))
  refine hK' _ _ ⟨p,_,B,v',hJ.step QMp 5 161 rfl (by rw[gn];decide) _ _ gG Ha Ka (fun _ _ h=>PaF.world h) rfl,?_⟩
  constructor
  ·rw[Qea (show 5≠3 by decide)];intro a;rw[y3]at a;cases a
  ·intro _;exact⟨q1.turn h0 Hh Ka (fun hx=>hx.keeps kg (Qua Ke hx (by decide))),Hx _ _ q2⟩
  ·intro a;rw[Qlb (by omega)]at a;cases a
  ·exact fun k h h2=>Hx _ _ (hE.sub k h h2)
  ·rw[Qea (show 5≠7 by decide)];intro _;exact hz.keeps kg (Qua Ke hz (by decide))
  ·intro _ a;rw[Qlb (by omega)]at a;cases a
  ·intro _;exact Hi
  ·rw[Qea (show 5≠7 by decide)];intro a;rw[u7]at a;cases a
 ·go_simp
  exact hK' _ _ ⟨p,pv,B,v8,hI.step QMp 6 162 rfl (by rw[gn];decide) _ _ gG Ha hS (fun _ _ h=>PaF.world h) rfl,hE.put (by decide) (by decide) (by decide) (by decide)⟩
 ·have y5:=QQa Ha 5 (by kernel_rfl)
  have y3:l.getD 3 false=true:=(hI.2.2.1.2.yes_far 8 gG Ha (by decide) (by kernel_rfl))
  have e5:c.tmps.getD 161 undef=v8:=hI.fact 5 161 rfl (QQa Ha 5 (by kernel_rfl))
  simp only[Array.getD_eq_getD_getElem?]at e5
  have e6:c.tmps.getD 162 undef = .pointer (some ⟨Z,3,none⟩):=hI.fact 6 162 rfl (QQa Ha 6 (by kernel_rfl))
  simp only[Array.getD_eq_getD_getElem?]at e6
  have iy:=hE.r5 y5
  obtain⟨q1,q2⟩:=hE.y3 y3
  have hz:=hE.n7 hl
  obtain⟨va,vc,rfl⟩:=Qia iy
  have z3:=hz.cell 3
  have zf:=hz.free 3
  have zl:=hz.lt
  go_simp
  have Hp:Qaa (· = Z) wx (wx.setCell ⟨Z,3,none⟩ (.slice va (acc.length+1) vc)):=(Qaa.refl (· = Z) wx).setCell (p:=⟨Z,3,none⟩) (.inr rfl) _
  have Ka:Qaa (· = r) W (wx.setCell ⟨Z,3,none⟩ (.slice va (acc.length+1) vc)):=hS.setCell (p:=⟨Z,3,none⟩) (.inl hZW) _
  have Hg:=hz.set 3 (.slice va (acc.length+1) vc)
  have Hx:∀(v:Value) (cs:List QJb),Qfa wx base v cs→Qfa (wx.setCell ⟨Z,3,none⟩ (.slice va (acc.length+1) vc)) base v cs:=fun v cs hc=>Qba hc Hp (fun g hg e=>by cases e;exact Qua hc hz (by decide) hg)
  refine hK' _ _ ⟨p,pv,B,_,hI.stepN 7 rfl _ gG Ha Ka (fun _ _ h=>PaF.world h) trivial,?_⟩
  constructor
  ·rw[Qea (show 7≠3 by decide)];intro a;rw[y3]at a;cases a
  ·intro _;exact⟨q1.turn h0 Hh Ka (fun hx=>hx.keeps Hp (fun e=>M3 e.symm)),Hx _ _ q2⟩
  ·rw[Qea (show 7≠5 by decide)];intro a;rw[y5]at a;cases a
  ·exact fun k h h2=>Hx _ _ (hE.sub k h h2)
  ·intro a;rw[Qlb (by omega)]at a;cases a
  ·rw[Qea (show 7≠4 by decide),Qea (show 7≠5 by decide)];intro _ a;rw[y5]at a;cases a
  ·intro _;exact Qba iy Hp (fun g hg e=>by cases e;exact Qua iy hz (by decide) hg)
  ·intro _;exact Hg
noncomputable def Qkc:Array Oper:=(Qfc (Tryz.f109.body.getD .skip) 27).getD #[]
theorem QXr:QJf .any Qkc=true:=by kernel_rfl
theorem QTj:QGf Qkc=true:=by kernel_rfl
theorem QNp:Qkc.size=8:=by kernel_rfl
set_option maxRecDepth 100000 in
theorem Qrh{Q:Exit→Act→World→Prop}(r base Z:Nat)(file:Int)(L:List Tok)(lv ov cv d0 d1 d2 d4 d5 d6:Value)(D:List Qwa)(i j:Nat)(acc:List QRa)(vs:List Value)(W w:World)(A:Act)(gn:A.tmps.size=191)
 (h0:Q4a W r base file L lv ov i D) (GV:i≤j) (hw:Q4a w r base file L lv ov j D) (hZ:Qca w Z #[d0,d1,d2,cv,d4,d5,d6] 34) (M3:Z≠r) (hZW:W.heap.size≤Z) (ky:vs.length=acc.length) (Hc:w.ownsRow W.heap.size 75 3 cv acc.length (QDa acc vs)) (gf:∀k (h:k<acc.length) (h2:k<vs.length),Qfa w base vs[k] acc[k].cells) (cu:acc.length≤10000)
 (a0:A.tmps.getD 0 undef = .pointer (some ⟨r,0,none⟩)) (a7:A.tmps.getD 7 undef = .pointer (some ⟨Z,0,none⟩)) (hS0:Qaa (· = r) W w)
 (hQ:∀c w' p v8,Q1d Qkc A c→Qaa (· = r) W w'→Qca w' Z #[d0,d1,d2,v8,d4,d5,d6] 34→QEb w' W.heap.size base v8 (acc++[p])→RP r base file L lv ov D (Qsb L j) p w'→Q .normal c w') :
 wpAny Tryz.prog .any Qkc Q Qkc.size (Array.replicate Qkc.size false) A w:=by
 have Hh:∀k q,Qsb L j = .ok (k,q)→i≤k:=fun k q e=>by have:=QGe e;omega
 refine Qzd (fun l c wx=>∃p pv B v8,QPf Qkc A (PaF r Z cv p pv B v8) (fun wx=>Qaa (· = r) W wx) l c wx∧PaE r base Z file L lv ov cv d0 d1 d2 d4 d5 d6 D j acc vs W p pv B v8 l wx) QXr ?gj ?KS _ _ _ _ (by simp) (by simp)
  ⟨⟨0,[],⟨#[]⟩⟩,.slice none 0 0,0,.slice none 0 0,QPf.start hS0,⟨fun _=>hw,fun h=>by rw[QMf]at h;(cases h),fun _=>Hc,gf,fun _=>hZ,fun h=>by rw[QMf]at h;(cases h),fun h=>by rw[QMf]at h;(cases h),fun h=>by rw[QMf]at h;(cases h)⟩⟩
 case gj=>
  rintro l c wx ⟨p,pv,B,v8,hI,hE⟩ hl
  have hh:∀k,k<8→l.getD k false=true:=fun k hk=>hl k (by rw[QNp];exact hk)
  obtain⟨q1,q2⟩:=hE.y3 (hh 3 (by decide))
  exact hQ c wx p v8 hI.1 hI.2.1 (hE.y7 (hh 7 (by decide))) (QOk ky (hE.r5 (hh 5 (by decide))) hE.sub q2) q1
 intro l c wx cT i' op ho hl Ha K' hK'
 obtain⟨p,pv,B,v8,hI,hE⟩:=cT
 have ak:l.size=8:=by rw[hI.2.2.1.1,QNp]
 have hi':i'<8:=by rw[←QNp];exact(Array.getElem?_eq_some_iff.1 ho).1
 have gG:=ho
 simp only[Qkc,Qfc,Tryz.f109,Option.getD_some,reduceIte,Nat.reduceEqDiff]at ho
 have hS:=hI.2.1
 have s0:=(hI.slot 0 (by kernel_rfl)).trans a0
 have s7:=(hI.slot 7 (by kernel_rfl)).trans a7
 simp only[Array.getD_eq_getD_getElem?]at s0 s7
 have dh:i'=0∨i'=1∨i'=2∨i'=3∨i'=4∨i'=5∨i'=6∨i'=7:=by omega
 clear hi'
 rcases dh with rfl|rfl|rfl|rfl|rfl|rfl|rfl|rfl
 all_goals cases ho
 ·go_simp
  exact hK' _ _ ⟨p,pv,B,v8,hI.step QTj 0 179 rfl (by rw[gn];decide) _ _ gG Ha hS (fun _ _ h=>PaF.world h) rfl,hE.put (by decide) (by decide) (by decide) (by decide)⟩
 ·have u7:=(hI.2.2.1.2.no_far 8 hl (by kernel_rfl:QXd Qkc 8 7 1=true))
  have hz:=hE.n7 u7
  have z3:=hz.cell 3
  have zl:=hz.lt
  have e0:c.tmps.getD 179 undef = .pointer (some ⟨Z,3,none⟩):=hI.fact 0 179 rfl (QQa Ha 0 (by kernel_rfl))
  simp only[Array.getD_eq_getD_getElem?]at e0
  go_simp
  exact hK' _ _ ⟨p,pv,B,v8,hI.step QTj 1 180 rfl (by rw[gn];decide) _ _ gG Ha hS (fun _ _ h=>PaF.world h) rfl,hE.put (by decide) (by decide) (by decide) (by decide)⟩
 ·go_simp
  exact hK' _ _ ⟨p,pv,B,v8,hI.step QTj 2 181 rfl (by rw[gn];decide) _ _ gG Ha hS (fun _ _ h=>PaF.world h) rfl,hE.put (by decide) (by decide) (by decide) (by decide)⟩
 ·have hr:=hE.n3 hl
  have e2:c.tmps.getD 181 undef = .pointer (some ⟨r,0,none⟩):=hI.fact 2 181 rfl (QQa Ha 2 (by kernel_rfl))
  simp only[Array.getD_eq_getD_getElem?]at e2
  have Mn:=QRk wx r base file L lv ov j D hr
  have u4:=(hI.2.2.1.2.no_far 8 hl (by kernel_rfl:QXd Qkc 8 4 3=true))
  have u5:=(hI.2.2.1.2.no_far 8 hl (by kernel_rfl:QXd Qkc 8 5 3=true))
  have u7:=(hI.2.2.1.2.no_far 8 hl (by kernel_rfl:QXd Qkc 8 7 3=true))
  have Ke:=hE.row u5
  have hz:=hE.n7 u7
  go_simp
  refine Mn.mono ?_
  rintro e w2 ⟨p',ca,cc,rfl,hC,Hp,hm⟩
  have Ka:=hS.trans Hp (fun _ _ e=>e)
  have Kb:=QLa.one hr.holds (by decide) (by decide) (by decide)
  have hJ:=hI.other (F':=PaF r Z cv p' (.slice ca p'.cells.length cc) B v8) (fun j hj u hF=>PaF.gh_p hF (QHc hj hl))
  refine hK' _ _ ⟨p',.slice ca p'.cells.length cc,B,v8,hJ.step QTj 3 182 rfl (by rw[gn];decide) _ _ gG Ha Ka (fun _ _ h=>PaF.world h) rfl,?_⟩
  constructor
  ·intro h;rw[Qlb (by omega)]at h;cases h
  ·intro _
   refine⟨?_,hC⟩
   unfold RP
   cases hp:Qsb L j with
   | ok q=>
    obtain⟨k,q⟩:=q
    rw[hp]at hm
    obtain⟨rfl,ha⟩:=hm
    exact .inl ⟨k,rfl,ha⟩
   | error q=>
    obtain⟨k,c⟩:=q
    rw[hp]at hm
    exact .inr ⟨k,c,rfl,hm⟩
  ·rw[Qea (show 3≠5 by decide)];intro _;exact Qba Ke Hp (Qvd Ke Kb (.inr (.inl rfl)))
  ·exact fun k h h2=>(hE.sub k h h2).keeps Hp Kb
  ·rw[Qea (show 3≠7 by decide)];intro _;exact hz.keeps Hp M3
  ·rw[Qea (show 3≠4 by decide)];intro a;rw[u4]at a;cases a
  ·rw[Qea (show 3≠5 by decide)];intro a;rw[u5]at a;cases a
  ·rw[Qea (show 3≠7 by decide)];intro a;rw[u7]at a;cases a
 ·have u5:=(hI.2.2.1.2.no_far 8 hl (by kernel_rfl:QXd Qkc 8 5 4=true))
  have u7:=(hI.2.2.1.2.no_far 8 hl (by kernel_rfl:QXd Qkc 8 7 4=true))
  have y3:=QQa Ha 3 (by kernel_rfl)
  have e3:c.tmps.getD 182 undef = .agg #[.int .i64 p.kind,pv,.string p.text]:=hI.fact 3 182 rfl (QQa Ha 3 (by kernel_rfl))
  simp only[Array.getD_eq_getD_getElem?]at e3
  obtain⟨q1,q2⟩:=hE.y3 y3
  have Ke:=hE.row u5
  have hz:=hE.n7 u7
  obtain⟨pa,pc,rfl⟩:=q2.slice
  go_simp
  have Hp:Qaa (fun _=>False) wx (wx.alloc (.cells #[.int .i64 p.kind,.slice pa p.cells.length pc,.string p.text] 75)):=(Qaa.refl _ wx).alloc _
  have Ka:=hS.trans Hp (fun _ _ e=>e.elim)
  have hJ:=hI.other (F':=PaF r Z cv p (.slice pa p.cells.length pc) wx.heap.size v8) (fun j hj u hF=>PaF.gh_B hF (QHc hj hl))
  refine hK' _ _ ⟨p,_,wx.heap.size,v8,hJ.step QTj 4 183 rfl (by rw[gn];decide) _ _ gG Ha Ka (fun _ _ h=>PaF.world h) rfl,?_⟩
  constructor
  ·rw[Qea (show 4≠3 by decide)];intro a;rw[y3]at a;cases a
  ·intro _;exact⟨q1.keeps Hp,q2.keeps Hp (QLa.nil _)⟩
  ·rw[Qea (show 4≠5 by decide)];intro _;exact Qba Ke Hp (fun _ _ e=>e)
  ·exact fun k h h2=>(hE.sub k h h2).keeps Hp (QLa.nil _)
  ·rw[Qea (show 4≠7 by decide)];intro _;exact hz.keeps Hp (fun e=>e)
  ·intro _ _;exact Qca.new _ _ _
  ·rw[Qea (show 4≠5 by decide)];intro a;rw[u5]at a;cases a
  ·rw[Qea (show 4≠7 by decide)];intro a;rw[u7]at a;cases a
 ·have u7:=(hI.2.2.1.2.no_far 8 hl (by kernel_rfl:QXd Qkc 8 7 5=true))
  have y3:l.getD 3 false=true:=(hI.2.2.1.2.yes_far 8 gG Ha (by decide) (by kernel_rfl))
  have y4:=QQa Ha 4 (by kernel_rfl)
  have e1:c.tmps.getD 180 undef=cv:=hI.fact 1 180 rfl (QQa Ha 1 (by kernel_rfl))
  simp only[Array.getD_eq_getD_getElem?]at e1
  have e4:c.tmps.getD 183 undef = .slice (some ⟨B,0,none⟩) 1 1:=hI.fact 4 183 rfl (QQa Ha 4 (by kernel_rfl))
  simp only[Array.getD_eq_getD_getElem?]at e4
  obtain⟨q1,q2⟩:=hE.y3 y3
  have Ke:=hE.row hl
  have hz:=hE.n7 u7
  have hb:=hE.b4 y4 hl
  obtain⟨pa,pc,rfl⟩:=q2.slice
  obtain⟨i0,mh,GE,GF,GA⟩:=info_parts QZf
  have My:Src Tryz.prog 3 32 (.slice (some ⟨B,0,none⟩) 1 1) 1 [.int .i64 p.kind,.slice pa p.cells.length pc,.string p.text] wx:=Src.ofSlice _ Tryz.underlying32 _ 1 1 _ rfl (Qvi hb) (fun u hu=>by simp at hu;rcases hu with rfl|rfl|rfl <;> rfl)
  refine QQb _ rfl _ _ 32 32 rfl W.heap.size 75 i0 _ 3 48 Tryz.underlying32 mh GE GF GA rfl cv acc.length (QDa acc vs) (by simpa[Act.eval]using e1) Ke (.slice (some ⟨B,0,none⟩) 1 1) (by simpa[Act.eval]using e4) 1 [.int .i64 p.kind,.slice pa p.cells.length pc,.string p.text] My (by unfold maxLen;omega) (by omega) hS.size ?_
  intro v' w2 Hi Hb Gg
  have kg:Qaa (fun b=>cv.ownBlock=some b) wx w2:=Qaa.of_grown Hb (fun i e=>e)
  have Ka:Qaa (· = r) W w2:=hS.grown Hb (fun g hg=>by have:=(Qpa Ke hg).2.1;left;omega)
  have Hx:∀(v:Value) (cs:List QJb),Qfa wx base v cs→Qfa w2 base v cs:=fun v cs hc=>Qba hc kg (fun g hg e=>by
   obtain⟨_,_,cur,q⟩:=Qpa Ke e
   exact Qua hc q (by decide) hg)
  have hJ:=hI.other (F':=PaF r Z cv p (.slice pa p.cells.length pc) B v') (fun j hj u hF=>PaF.gh_v hF (QHc hj hl))
  refine hK' _ _ ⟨p,_,B,v',hJ.step QTj 5 184 rfl (by rw[gn];decide) _ _ gG Ha Ka (fun _ _ h=>PaF.world h) rfl,?_⟩
  constructor
  ·rw[Qea (show 5≠3 by decide)];intro a;rw[y3]at a;cases a
  ·intro _;exact⟨q1.turn h0 Hh Ka (fun hx=>hx.keeps kg (Qua Ke hx (by decide))),Hx _ _ q2⟩
  ·intro a;rw[Qlb (by omega)]at a;cases a
  ·exact fun k h h2=>Hx _ _ (hE.sub k h h2)
  ·rw[Qea (show 5≠7 by decide)];intro _;exact hz.keeps kg (Qua Ke hz (by decide))
  ·intro _ a;rw[Qlb (by omega)]at a;cases a
  ·intro _;exact Hi
  ·rw[Qea (show 5≠7 by decide)];intro a;rw[u7]at a;cases a
 ·go_simp
  exact hK' _ _ ⟨p,pv,B,v8,hI.step QTj 6 185 rfl (by rw[gn];decide) _ _ gG Ha hS (fun _ _ h=>PaF.world h) rfl,hE.put (by decide) (by decide) (by decide) (by decide)⟩
 ·have y5:=QQa Ha 5 (by kernel_rfl)
  have y3:l.getD 3 false=true:=(hI.2.2.1.2.yes_far 8 gG Ha (by decide) (by kernel_rfl))
  have e5:c.tmps.getD 184 undef=v8:=hI.fact 5 184 rfl (QQa Ha 5 (by kernel_rfl))
  simp only[Array.getD_eq_getD_getElem?]at e5
  have e6:c.tmps.getD 185 undef = .pointer (some ⟨Z,3,none⟩):=hI.fact 6 185 rfl (QQa Ha 6 (by kernel_rfl))
  simp only[Array.getD_eq_getD_getElem?]at e6
  have iy:=hE.r5 y5
  obtain⟨q1,q2⟩:=hE.y3 y3
  have hz:=hE.n7 hl
  obtain⟨va,vc,rfl⟩:=Qia iy
  have z3:=hz.cell 3
  have zf:=hz.free 3
  have zl:=hz.lt
  go_simp
  have Hp:Qaa (· = Z) wx (wx.setCell ⟨Z,3,none⟩ (.slice va (acc.length+1) vc)):=(Qaa.refl (· = Z) wx).setCell (p:=⟨Z,3,none⟩) (.inr rfl) _
  have Ka:Qaa (· = r) W (wx.setCell ⟨Z,3,none⟩ (.slice va (acc.length+1) vc)):=hS.setCell (p:=⟨Z,3,none⟩) (.inl hZW) _
  have Hg:=hz.set 3 (.slice va (acc.length+1) vc)
  have Hx:∀(v:Value) (cs:List QJb),Qfa wx base v cs→Qfa (wx.setCell ⟨Z,3,none⟩ (.slice va (acc.length+1) vc)) base v cs:=fun v cs hc=>Qba hc Hp (fun g hg e=>by cases e;exact Qua hc hz (by decide) hg)
  refine hK' _ _ ⟨p,pv,B,_,hI.stepN 7 rfl _ gG Ha Ka (fun _ _ h=>PaF.world h) trivial,?_⟩
  constructor
  ·rw[Qea (show 7≠3 by decide)];intro a;rw[y3]at a;cases a
  ·intro _;exact⟨q1.turn h0 Hh Ka (fun hx=>hx.keeps Hp (fun e=>M3 e.symm)),Hx _ _ q2⟩
  ·rw[Qea (show 7≠5 by decide)];intro a;rw[y5]at a;cases a
  ·exact fun k h h2=>Hx _ _ (hE.sub k h h2)
  ·intro a;rw[Qlb (by omega)]at a;cases a
  ·rw[Qea (show 7≠4 by decide),Qea (show 7≠5 by decide)];intro _ a;rw[y5]at a;cases a
  ·intro _;exact Qba iy Hp (fun g hg e=>by cases e;exact Qua iy hz (by decide) hg)
  ·intro _;exact Hg
def Quf(R:Rs (Nat × List QRa))(X:ByteArray)(l c:Int):Rs (Nat × List Qwa):=match R with
 | .error e=>.error e
 | .ok (j,ps)=>.ok (j,[⟨3,⟨#[]⟩,X,ps,l,c⟩])
theorem Qoh{L:List Tok}{n dp i:Nat}(hb:isK L (i+1) 4 [123]=false):Qxb L (n+1) (.named dp) i=(if Q5b (tkN L i).text=true then Quf (Qvb L (Qgb L) [61] (i+1) []) (txN L i) (tkN L i).line (tkN L i).col else .error (i,1)):=by
 rw[Qxb,if_neg (by rw[hb];exact Bool.false_ne_true)]
 rfl
theorem Qsp{L:List Tok}{i:Nat}{s:List UInt8}(hs:s≠[])(h:isK L i 4 s=false):(tkN L i).kind≠4∨(tkN L i).text≠s:=by
 unfold isK at h
 have cy:s.isEmpty=false:=by simpa using hs
 rw[cy,Bool.false_or,Bool.and_eq_false_iff,decide_eq_false_iff_not,decide_eq_false_iff_not]at h
 exact h
set_option maxRecDepth 100000 in
theorem QBg(r base:Nat)(file:Int)(L:List Tok)(lv:Value)(n:Nat)(w:World)(ov:Value)(i:Nat)(D:List Qwa)(h:Q4a w r base file L lv ov i D)(dp:Nat)(mF:dp≤50)(hk:(tkN L i).kind=1)(hb:isK L (i+1) 4 [123]=false)(kF:D.length≤2*i)(hc:(tkN L (i+1)).kind≠4) :
 Calls Tryz.prog 109 #[.pointer (some ⟨r,0,none⟩),.int .i64 (dp:Int)] w (Q9b r base file L lv D (Qxb L (n+2) (.member dp) i) w):=by
 rw[QEe hk,Qoh hb]
 obtain⟨c0,c1,c2,c3,_,_,_,f1,f2,f3,_,_,_,cl⟩:=h.cells
 obtain⟨n1,n2⟩:=h.num
 have HH:=hid h
 have gU:=hid (h.ok.next h.lt (by rw[hk];decide))
 obtain⟨g,cap,rfl,hg,d0,d1,d2,d3,d4,d5⟩:=h.toks.at h.lt
 have gl:g<w.heap.size:=World.block_lt_of_cell? w _ d0
 rw[hk]at d0
 obtain⟨tl,H7⟩:∃t,t=(tkN L i).line:=⟨_,rfl⟩
 obtain⟨tc,Gb⟩:∃t,t=(tkN L i).col:=⟨_,rfl⟩
 rw[←H7]at d4
 rw[←Gb]at d5
 have KF:=hid H7
 have KE:=hid Gb
 clear H7 Gb
 have hN:=Qca.new w #[.int .i64 0,.int .i64 0,.int .i64 0] 27
 have Hl:Below w.heap.size w (w.alloc (.cells #[.int .i64 0,.int .i64 0,.int .i64 0] 27)):=(Below.refl _ _).alloc (Nat.le_refl _) _
 have c0':=(Hl.cell cl).trans c0
 have c1':=(Hl.cell cl).trans c1
 have d3':=(Hl.cell gl).trans d3
 have d4':=(Hl.cell gl).trans d4
 have d5':=(Hl.cell gl).trans d5
 obtain⟨m0,m1,m2,mf0,mf1,mf2,ml⟩:=three hN
 have hM:=(Qca.new w #[.int .i64 file,.int .i64 tl,.int .i64 tc] 27).drew
 have Hd:Qaa (fun _=>False) w (w.alloc (.cells #[.int .i64 file,.int .i64 tl,.int .i64 tc] 27)).drew:=((Qaa.refl _ w).alloc _).drew
 have h3:=h.keeps Hd
 obtain⟨x0,x1,x2,_,_,_,xl⟩:=three hM
 obtain⟨y0,y1,_,y3,_,_,_,z1,_,z3,_,_,_,yl⟩:=h3.cells
 have e0:=(Hd.cell (p:=⟨g,i*6,none⟩) gl (fun e=>e)).trans d0
 have gl3:=Nat.lt_of_lt_of_le gl Hd.size
 have H3:=hid h3
 have gh:=hid Hd
 have HM:=hid hM
 have GK:=hid (fun wx hx=>Q6h wx r base file L (.slice (some ⟨g,0,none⟩) L.length cap) ov i D hx 1 (by decide))
 have iU:=hid hc
 have HT:=hid (show Qja L 1 (QKa 2) i=if Q5b (tkN L i).text=true then .ok (i+1)else .error (i,1)from by unfold Qja;rw[if_pos hk];rfl)
 obtain⟨T,hT⟩:∃T,T=Qja L 1 (QKa 2) i:=⟨_,rfl⟩
 rw[←hT]at GK HT
 obtain⟨PR,jP⟩:∃R,R=Qvb L (Qgb L) [61] (i+1) []:=⟨_,rfl⟩
 rw[←jP]
 obtain⟨X,hX⟩:∃X,X=txN L i:=⟨_,rfl⟩
 rw[←hX]
 unfold Qbb at GK
 rw[←hX]at GK
 have bk:(dp:Int)≤50:=by omega
 have He:(if Q5b (tkN L i).text=true then Quf PR X (tkN L i).line (tkN L i).col else .error (i,1))=Qfi T (Quf PR X (tkN L i).line (tkN L i).col):=by
  rw[HT.out]
  split <;> rfl
 rw[He,←KF.out,←KE.out]
 have Gr:∀j,T = .ok j→j=i+1:=fun j e=>by
  have h9:=HT.out
  rw[e]at h9
  split at h9
  ·injection h9
  ·cases h9
 have jv:=hid Gr
 have j5:=hid kF
 have jy:=hid jP
 have G2:w.heap.size≠r:=by omega
 have H9:=hid (show ∀b,b<base→¬b=r from fun b hb e=>by have:=h.low;omega)
 clear h hk hb hc hN Hl hM Hd h3 hT HT He jP hX Gr kF
 have sd:Hid (∀wx,Q4a wx r base file L (.slice (some ⟨g,0,none⟩) L.length cap) ov i D→Calls Tryz.prog 65 #[.pointer (some ⟨r,0,none⟩),.int .i64 1,.int .i64 2] wx fun e w'=>∃Y:ByteArray,Qaa (· = r) wx w'∧e = .returned (.string Y)∧RT r base file L (.slice (some ⟨g,0,none⟩) L.length cap) ov D T X Y w'):=hid (fun wx hx=>by
  refine(GK.out wx hx).mono ?_
  rintro e w' ⟨hk,hm⟩
  cases T with
  | ok j=>exact⟨X,hk,hm.1,.inl ⟨j,rfl,rfl,hm.2⟩⟩
  | error q=>exact⟨⟨#[]⟩,hk,hm.1,.inr ⟨q.1,q.2,rfl,hm.2⟩⟩)
 go_enter Tryz.func109,Tryz.ntmps109
 go_wp2_with fail
 go_region
 generalize (w.alloc (.cells #[.int .i64 file,.int .i64 tl,.int .i64 tc] 27)).drew=w3 at *
 clear c0 c1 c2 c3 d0 d1 d2 d3 d4 d5 c0' c1' d3' d4' d5' m0 m1 m2 mf0 mf1 mf2 ml gl cl f1 f2 f3
 go_wp2_with fail
 go_quiet (fail)
 go_wp2_with fail
 go_quiet (fail)
 go_wp2_with fail
 go_quiet (fail)
 go_wp2_with fail
 generalize kH:World.drewN (World.drewN w3 _) _=w5
 have Hs:Qaa (fun _=>False) w3 w5:=by rw[←kH];exact(Qda _ _).trans (Qda _ _) (fun _ _ e=>e)
 have H5:=hid (H3.out.keeps Hs)
 have MU:=hid (HM.out.keeps Hs (fun e=>e))
 have kb:=hid (gh.out.trans Hs (fun _ _ e=>e))
 obtain⟨g',cap',eg,hg',q0,q1,q2,q3,q4,q5⟩:=H5.out.toks.at gU.out
 cases eg
 obtain⟨kd,MJ⟩:∃x,x=(tkN L (i+1)).kind:=⟨_,rfl⟩
 obtain⟨tx,kU⟩:∃x,x=(tkN L (i+1)).text:=⟨_,rfl⟩
 rw[←MJ]at q0 iU
 rw[←kU]at q1
 clear MJ kU
 have ql:g<w5.heap.size:=World.block_lt_of_cell? w5 _ q0
 obtain⟨b0,b1,_,b3,_,_,_,_,_,_,_,_,_,bl⟩:=H5.out.cells
 generalize (tkN L (i+1)).value=tv at *
 generalize (tkN L (i+1)).line=tl2 at *
 generalize (tkN L (i+1)).col=tc2 at *
 have M2:=Qca.new w5 #[.int .i64 0,.string ⟨#[]⟩,.int .i64 0,.int .i64 0,.int .i64 0,.int .i64 0] 65
 have Gk:Below w5.heap.size w5 (w5.alloc (.cells #[.int .i64 0,.string ⟨#[]⟩,.int .i64 0,.int .i64 0,.int .i64 0,.int .i64 0] 65)):=(Below.refl _ _).alloc (Nat.le_refl _) _
 have b0':=(Gk.cell bl).trans b0
 have b1':=(Gk.cell bl).trans b1
 have q0':=(Gk.cell ql).trans q0
 have q1':=(Gk.cell ql).trans q1
 have q2':=(Gk.cell ql).trans q2
 have q3':=(Gk.cell ql).trans q3
 have q4':=(Gk.cell ql).trans q4
 have q5':=(Gk.cell ql).trans q5
 obtain⟨g0,g1,g2,g3,g4,g5⟩:=QWb M2
 obtain⟨o0,o1,o2,o3,o4,o5⟩:=Qga M2
 have Hh:=M2.lt
 have Hz:Qaa (fun _=>False) w5 (w5.alloc (.cells #[.int .i64 kd,.string ⟨tx.toArray⟩,.int .i64 tv,.int .i64 file,.int .i64 tl2,.int .i64 tc2] 65)).drew:=((Qaa.refl _ w5).alloc _).drew
 have M1:=(Qca.new w5 #[.int .i64 kd,.string ⟨tx.toArray⟩,.int .i64 tv,.int .i64 file,.int .i64 tl2,.int .i64 tc2] 65).drew
 obtain⟨u0,u1,_,_,_,_⟩:=Qga M1
 have ul:=M1.lt
 have h6:=H5.out.keeps Hz
 have K2:=hid (MU.out.keeps Hz (fun e=>e))
 have gH:=hid ((kb.out.trans Hz (fun _ _ e=>e)).mono (S:=(· = r)) (fun _ _ e=>e.elim))
 obtain⟨s0,s1,_,s3,_,_,_,r1,_,_,_,_,_,sl⟩:=h6.cells
 have H6:=hid h6
 have rF:=hid M1
 have KX:IntKind.i64.wrap (((i:Nat):Int)+1)=((i:Nat):Int)+1:=IntWalk.i64_in _ (by omega)
 have Mp:(0:Int)≤((i:Nat):Int)+1:=by omega
 have k8:((i:Nat):Int)+1<(L.length:Int):=by have:=gU.out;omega
 have jd:(((i:Nat):Int)+1).toNat=i+1:=by omega
 clear M2 Gk Hz M1 h6 Hs
 go_region
 generalize (w5.alloc (.cells #[.int .i64 kd,.string ⟨tx.toArray⟩,.int .i64 tv,.int .i64 file,.int .i64 tl2,.int .i64 tc2] 65)).drew=w6 at *
 clear KX Mp k8 jd b0 b1 b3 bl b0' b1' q0 q1 q2 q3 q4 q5 q0' q1' q2' q3' q4' q5' g0 g1 g2 g3 g4 g5 o0 o1 o2 o3 o4 o5 Hh ql
 have kR:(kd == 4)=false:=by rw[beq_eq_false_iff_ne];exact iU.out
 go_wp2_with fail
 have GM:=HH.out.size
 go_upto_region 21 with fail
 refine wp_region_any (by kernel_rfl) ?_
 refine QAc (ops':=Q5e) (by kernel_rfl) ?_
 refine Qyg r base w.heap.size file L (.slice (some ⟨g,0,none⟩) L.length cap) ov i D T X tl tc w w6.drew _ ?_ HH.out (fun j e=>by have:=jv.out j e;omega) G2 (H6.out.keeps ((Qaa.refl _ _).drew)) K2.out.drew (fun wx hx=>sd.out wx hx) ?_ ?_ gH.out.drew ?_
 ·rfl
 ·rfl
 ·rfl
 intro c w8 Z Y Ky gE c7 fH lc M3 sH
 obtain⟨y136,y137,y138,y139,y7,hc⟩:=Ky.ex [136,137,138,139,7] (by kernel_rfl)
 subst hc
 simp only[List.setIfInBounds_toArray,List.set_cons_zero,List.set_cons_succ]at c7 ⊢
 have e7:y7 = .pointer (some ⟨Z,0,none⟩):=c7
 subst e7
 unfold Qbo at fH
 have aO:=hid fH
 have Kz:=hid gE
 clear c7 Ky fH gE
 rcases sH with⟨jw,e1,rfl,MD⟩|⟨k,c,e1,cn⟩
 ·have ax:=hid (jv.out jw e1)
  subst e1
  have GG:=hid MD
  have mp:=hid (QZb w8 r base file L (.slice (some ⟨g,0,none⟩) L.length cap) ov jw D MD 4 [61] (by decide))
  obtain⟨_,b1,_,b3,_,_,_,f1,_,_,_,_,_,bl⟩:=MD.cells
  have rY:=hid (MD.num)
  obtain⟨n5,n6⟩:=MD.num
  clear MD
  cases hq:isK L jw 4 [61]with
  | false=>
   rw[hq]at mp
   have mN:=hid (show PR = .ok (jw,[])from by
    rw[jy.out,←ax.out,show Qgb L=L.length+1 from rfl,Qvb,if_neg (by rw[hq];exact Bool.false_ne_true)])
   have ay:=hid (show D.length≤2*jw from by have:=j5.out;have:=ax.out;omega)
   clear hq
   go_wp2_with fail
   refine(by exact mp.out:Calls _ _ _ _ _).mono ?_
   rintro e w9 ⟨rfl,G9⟩
   have qQ:=hid (GG.out.keeps G9)
   have aP:=hid (aO.out.keeps G9 (fun e=>e))
   have Mr:=hid (Kz.out.trans G9 (fun _ _ e=>e.elim))
   obtain⟨s0,s1,s2,s3,s4,s5,s6⟩:=Qna aP.out
   have sl:=aP.out.lt
   have Kf:=hid (Qqb w9 r base file L (.slice (some ⟨g,0,none⟩) L.length cap) ov jw D ⟨3,⟨#[]⟩,Y,[],tl,tc⟩ (.slice none 0 0) qQ.out (Qha.none _ _) (by have:=ay.out;omega))
   clear G9
   go_wp2_with fail
   refine(by exact Kf.out:Calls _ _ _ _ _).mono ?_
   rintro e wa ⟨rfl,ova,Kw,M6⟩
   have gA:=hid (Qtb wa r base file L _ ova jw _ Kw [59] (by decide))
   have jZ:=hid ((Mr.out.below HH.out.size H9.out).trans M6)
   have eS:=hid Kw.size
   clear Kw M6
   go_wp2_with fail
   refine(by exact gA.out:Calls _ _ _ _ _).mono ?_
   rintro e wb ⟨rfl,kR,t1,t2⟩
   have GQ:=hid (And.intro t1 t2)
   have K7:=hid (jZ.out.trans (kR.below eS.out H9.out))
   clear kR t1 t2
   go_wp2_with fail
   refine bodyPost_ret (results_none rfl _ _ _) rfl ?_
   refine⟨rfl,K7.out,?_⟩
   rw[mN.out]
   cases hg:isK L jw 4 [59]with
   | true=>
    rw[show QDc L (Qfi (.ok jw) (Quf (.ok (jw,[])) Y tl tc))=_ from QJc hg]
    exact⟨ova,GQ.out.1 hg,by simp;have:=ay.out;omega⟩
   | false=>
    rw[show QDc L (Qfi (.ok jw) (Quf (.ok (jw,[])) Y tl tc))=_ from Qcc hg]
    exact GQ.out.2 hg
  | true=>
   rw[hq]at mp
   have rI:=hid (GG.out.ok.next GG.out.lt (by rw[(Qqc (by decide) hq).1];decide))
   have JA:=hid (show(match Qsb L (jw+1)with
    | .ok (k,q)=>Qvb L L.length [44] k (([]:List QRa)++[q])
    | .error e=>.error e)=PR from by
    rw[jy.out,←ax.out,show Qgb L=L.length+1 from rfl,Qvb,if_pos hq]
    cases Qsb L (jw+1) <;> rfl)
   clear hq
   go_wp2_with fail
   refine(by exact mp.out:Calls _ _ _ _ _).mono ?_
   rintro e w9 ⟨rfl,G9⟩
   have ft:=GG.out.keeps G9
   have aP:=hid (aO.out.keeps G9 (fun e=>e))
   have Mr:=hid (Kz.out.trans G9 (fun _ _ e=>e.elim))
   obtain⟨_,b1,_,b3,_,_,_,f1,_,_,_,_,_,bl⟩:=ft.cells
   obtain⟨gy,gB⟩:=ft.step rI.out
   have MO:=hid gy
   have MW:=hid (aP.out.keeps gB M3)
   have az:=hid (Mr.out.trans gB (fun _ _ e=>e))
   clear G9 ft gy gB
   have eP:=hid (QEb.none w9 w.heap.size base)
   go_upto_region 24 with fail
   generalize w9.setCell ⟨r,1,none⟩ (.int .i64 ((jw:Int)+1))=w10 at *
   obtain⟨vs,ky,Hc,gf⟩:=QEb.none w10 w.heap.size base
   clear b1 b3 f1 bl
   refine wp_region_any (by kernel_rfl) ?_
   refine QAc (ops':=QZd) (by kernel_rfl) ?_
   refine Q1i r base Z file L (.slice (some ⟨g,0,none⟩) L.length cap) ov (.slice none 0 0) (.int .i64 3) (.string ⟨#[]⟩) (.string Y) (.int .i64 file) (.int .i64 tl) (.int .i64 tc) D i (jw+1) [] vs w w10.drew _ ?_ HH.out (by have:=ax.out;omega) (MO.out.keeps ((Qaa.refl _ _).drew)) MW.out.drew M3 lc ky (Qba Hc ((Qaa.refl (fun _=>False) _).drew) (fun _ _ e=>e)) (fun k h _=>by simp at h) (by simp) ?_ ?_ az.out.drew ?_
   ·rfl
   ·rfl
   ·rfl
   intro c w11 p1 v8 Ky bC Jj Ji aZ
   obtain⟨y156,y157,y158,y159,y160,y161,y162,hc⟩:=Ky.ex [156,157,158,159,160,161,162] (by kernel_rfl)
   subst hc
   simp only[List.setIfInBounds_toArray,List.set_cons_zero,List.set_cons_succ]
   have eZ:=hid Jj
   have eD:=hid bC
   have eM:=hid Ji
   have cR:=hid (show(∃j,Hid (Q4a w11 r base file L (.slice (some ⟨g,0,none⟩) L.length cap) ov j D)∧Hid (Qvb L L.length [44] j ([]++[p1])=PR)∧Hid (L.length+1≤j+L.length∧([]++[p1]).length≤j∧i≤j))∨(∃k c,Hid (PR = .error (k,c))∧Hid (QIb w11 r file L k c))from by
    have h9:=JA.out
    rcases aZ with⟨k,e,ha⟩|⟨k,c,e,hb⟩
    ·have kK:=QGe e
     rw[e]at h9
     exact .inl ⟨k,hid ha,hid h9,hid ⟨by omega,by simp;omega,by have:=ax.out;omega⟩⟩
    ·rw[e]at h9
     exact .inr ⟨k,c,hid h9.symm,hid hb⟩)
   clear Ky Jj bC Ji aZ Hc gf ky MO MW az aP Mr GG aO Kz eP
   go_wp2_with fail
   go_loopg [] (L.length) (fun f wr=>∃(acc:List QRa) (cv:Value),Hid (Qca wr Z #[.int .i64 3,.string ⟨#[]⟩,.string Y,cv,.int .i64 file,.int .i64 tl,.int .i64 tc] 34)∧Hid (QEb wr w.heap.size base cv acc)∧Hid (Qaa (· = r) w wr)∧((∃j,Hid (Q4a wr r base file L (.slice (some ⟨g,0,none⟩) L.length cap) ov j D)∧Hid (Qvb L f [44] j acc=PR)∧Hid (L.length+1≤j+f∧acc.length≤j∧i≤j))∨(∃k c,Hid (PR = .error (k,c))∧Hid (QIb wr r file L k c))))
   case atStart=>exact⟨[]++[p1],v8,eZ,eM,eD,cR.out⟩
   case round=>
    obtain⟨acc,cv,HZ,HP,HK,⟨j,HA,HS,HN⟩|⟨k,c,HE,HB⟩⟩:=hrel
    ·obtain⟨nn,Mo⟩:∃nn,nn+1=gk:=⟨gk-1,by have:=HN.out;have:=HA.out.lt;omega⟩
     have j8:=hid Mo
     have hA:=HA.out
     have KZ:=hid (QZb wr r base file L (.slice (some ⟨g,0,none⟩) L.length cap) ov j D hA 4 [44] (by decide))
     obtain⟨_,b1,_,b3,_,_,_,f1,_,_,_,_,_,bl⟩:=hA.cells
     obtain⟨n7,n8⟩:=hA.num
     have hS:=HS.out
     rw[←Mo,Qvb]at hS
     cases hg:isK L j 4 [44]with
     | false=>
      rw[hg]at KZ
      rw[hg,if_neg Bool.false_ne_true]at hS
      have mN:=hid hS.symm
      have ay:=hid (show D.length≤2*j from by have:=j5.out;have:=HN.out;omega)
      clear hS hg hA Mo
      go_wp2_with fail
      refine(by exact KZ.out:Calls _ _ _ _ _).mono ?_
      rintro e w12 ⟨rfl,GW⟩
      have ef:=hid (HA.out.keeps GW)
      have aN:=hid (HZ.out.keeps GW (fun e=>e))
      have aF:=hid (HP.out.keeps GW (QLa.nil _))
      have eE:=hid (HK.out.trans GW (fun _ _ e=>e.elim))
      clear GW
      obtain⟨va,vc,rfl⟩:=aF.out.slice
      obtain⟨s0,s1,s2,s3,s4,s5,s6⟩:=Qna aN.out
      have sl:=aN.out.lt
      have Kf:=hid (Qqb w12 r base file L (.slice (some ⟨g,0,none⟩) L.length cap) ov j D ⟨3,⟨#[]⟩,Y,acc,tl,tc⟩ (.slice va (List.length (acc)) vc) ef.out (aF.out.row GM) (by have:=ay.out;omega))
      go_wp2_with fail
      refine(by exact Kf.out:Calls _ _ _ _ _).mono ?_
      rintro e wa ⟨rfl,ova,Kw,M6⟩
      have gA:=hid (Qtb wa r base file L _ ova j _ Kw [59] (by decide))
      have jZ:=hid ((eE.out.below HH.out.size H9.out).trans M6)
      have eS:=hid Kw.size
      clear Kw M6
      go_wp2_with fail
      refine(by exact gA.out:Calls _ _ _ _ _).mono ?_
      rintro e wb ⟨rfl,kR,t1,t2⟩
      have GQ:=hid (And.intro t1 t2)
      have K7:=hid (jZ.out.trans (kR.below eS.out H9.out))
      clear kR t1 t2
      go_wp2_with fail
      refine bodyPost_ret (results_none rfl _ _ _) rfl ?_
      refine⟨rfl,K7.out,?_⟩
      rw[mN.out]
      cases hg:isK L j 4 [59]with
      | true=>
       rw[show QDc L (Qfi (.ok jw) (Quf (.ok (j,acc)) Y tl tc))=_ from QJc hg]
       exact⟨ova,GQ.out.1 hg,by simp;have:=ay.out;omega⟩
      | false=>
       rw[show QDc L (Qfi (.ok jw) (Quf (.ok (j,acc)) Y tl tc))=_ from Qcc hg]
       exact GQ.out.2 hg
     | true=>
      rw[hg]at KZ
      rw[hg,if_pos rfl]at hS
      have eK:=hid (HA.out.ok.next HA.out.lt (by rw[(Qqc (by decide) hg).1];decide))
      have Ms:=hid hS
      clear hS hg hA Mo
      go_wp2_with fail
      refine(by exact KZ.out:Calls _ _ _ _ _).mono ?_
      rintro e w12 ⟨rfl,GW⟩
      have MX:=HA.out.keeps GW
      obtain⟨_,b1,_,b3,_,_,_,f1,_,_,_,_,_,bl⟩:=MX.cells
      obtain⟨gy,gB⟩:=MX.step eK.out
      have eh:=hid gy
      have fb:=hid ((HZ.out.keeps GW (fun e=>e)).keeps gB M3)
      have eN:=hid ((HP.out.keeps GW (QLa.nil _)).keeps gB (QLa.one MX.holds (by decide) (by decide) (by decide)))
      have eF:=hid ((HK.out.trans GW (fun _ _ e=>e.elim)).trans gB (fun _ _ e=>e))
      clear GW MX gy gB
      go_upto_region 27 with fail
      generalize w12.setCell ⟨r,1,none⟩ (.int .i64 ((j:Int)+1))=w13 at *
      obtain⟨vs,ky,Hc,gf⟩:=eN.out
      clear b1 b3 f1 bl
      refine wp_region_any (by kernel_rfl) ?_
      refine QAc (ops':=Qkc) (by kernel_rfl) ?_
      refine Qrh r base Z file L (.slice (some ⟨g,0,none⟩) L.length cap) ov cv (.int .i64 3) (.string ⟨#[]⟩) (.string Y) (.int .i64 file) (.int .i64 tl) (.int .i64 tc) D i (j+1) acc vs w w13.drew _ ?_ HH.out (by have:=HN.out;omega) (eh.out.keeps ((Qaa.refl _ _).drew)) fb.out.drew M3 lc ky (Qba Hc ((Qaa.refl (fun _=>False) _).drew) (fun _ _ e=>e)) (fun k h h2=>(gf k h h2).keeps ((Qaa.refl (fun _=>False) _).drew) (QLa.nil _)) (by have:=HN.out;omega) ?_ ?_ eF.out.drew ?_
      ·rfl
      ·rfl
      ·rfl
      intro c w14 p2 v9 Ky bD bh aX a8
      obtain⟨y179,y180,y181,y182,y183,y184,y185,hc⟩:=Ky.ex [179,180,181,182,183,184,185] (by kernel_rfl)
      subst hc
      simp only[List.setIfInBounds_toArray,List.set_cons_zero,List.set_cons_succ]
      have eV:=hid (show(∃j,Hid (Q4a w14 r base file L (.slice (some ⟨g,0,none⟩) L.length cap) ov j D)∧Hid (Qvb L nn [44] j (acc++[p2])=PR)∧Hid (L.length+1≤j+nn∧(acc++[p2]).length≤j∧i≤j))∨(∃k c,Hid (PR = .error (k,c))∧Hid (QIb w14 r file L k c))from by
       have h9:=Ms.out
       have hN:=HN.out
       have xG:=j8.out
       rcases a8 with⟨k,e,ha⟩|⟨k,c,e,hb⟩
       ·have kK:=QGe e
        rw[e]at h9
        exact .inl ⟨k,hid ha,hid h9,hid ⟨by omega,by simp;omega,by omega⟩⟩
       ·rw[e]at h9
        exact .inr ⟨k,c,hid h9.symm,hid hb⟩)
      have fd:=hid bh
      have eG:=hid bD
      have eO:=hid aX
      clear Ky bh bD aX a8 Hc gf ky
      go_wp2_with fail
      go_roundg nn
      case measure=>have:=j8.out;omega
      case rel=>exact⟨acc++[p2],v9,fd,eO,eG,eV.out⟩
    ·have mN:=HE.out
     obtain⟨Km,lv',x',ov',hH⟩:=id HB.out
     have b3:=hH.cell 3
     have bl:=hH.lt
     have aa:(c == 0)=false:=by rw[beq_eq_false_iff_ne];exact Km
     have mN:=hid HE.out
     clear hH Km
     obtain⟨va,vc,rfl⟩:=HP.out.slice
     obtain⟨s0,s1,s2,s3,s4,s5,s6⟩:=Qna HZ.out
     have sl:=HZ.out.lt
     go_wp2_with fail
     refine(by exact Q8a wr r file L k c HB.out _ _ _ _ _ _ _ _ _:Calls _ _ _ _ _).mono ?_
     rintro e wa ⟨rfl,Kw,bF⟩
     have jZ:=hid ((HK.out.trans (bF.mono (S:=(· = r)) (fun _ _ e=>e.elim)) (fun _ _ e=>e)).below HH.out.size H9.out)
     have ei:=hid Kw
     have GQ:=hid (Qqa wa r file L k c Kw ⟨#[59]⟩)
     clear Kw bF
     go_wp2_with fail
     refine(by exact GQ.out:Calls _ _ _ _ _).mono ?_
     rintro e wb ⟨rfl,rfl⟩
     go_wp2_with fail
     refine bodyPost_ret (results_none rfl _ _ _) rfl ?_
     rw[mN.out]
     exact⟨rfl,jZ.out,ei.out⟩
 ·subst e1
  have GS:=hid cn
  obtain⟨Km,lv',x',ov',hH⟩:=id cn
  have b3:=hH.cell 3
  have bl:=hH.lt
  have aa:(c == 0)=false:=by rw[beq_eq_false_iff_ne];exact Km
  clear cn hH Km
  obtain⟨s0,s1,s2,s3,s4,s5,s6⟩:=Qna aO.out
  have sl:=aO.out.lt
  go_wp2_with fail
  refine(by exact Q8a w8 r file L k c GS.out _ _ _ _ _ _ _ _ _:Calls _ _ _ _ _).mono ?_
  rintro e wa ⟨rfl,Kw,bF⟩
  have jZ:=hid ((Kz.out.trans (bF.mono (S:=(· = r)) (fun _ _ e=>e.elim)) (fun _ _ e=>e)).below HH.out.size H9.out)
  have ei:=hid Kw
  have GQ:=hid (Qqa wa r file L k c Kw ⟨#[59]⟩)
  clear Kw bF
  go_wp2_with fail
  refine(by exact GQ.out:Calls _ _ _ _ _).mono ?_
  rintro e wb ⟨rfl,rfl⟩
  go_wp2_with fail
  refine bodyPost_ret (results_none rfl _ _ _) rfl ?_
  exact⟨rfl,jZ.out,ei.out⟩
set_option maxRecDepth 100000 in
theorem QCg(r base:Nat)(file:Int)(L:List Tok)(lv:Value)(n:Nat)(w:World)(ov:Value)(i:Nat)(D:List Qwa)(h:Q4a w r base file L lv ov i D)(dp:Nat)(mF:dp≤50)(hk:(tkN L i).kind=1)(hb:isK L (i+1) 4 [123]=false)(kF:D.length≤2*i)(h4:(tkN L (i+1)).kind=4)(hc:(tkN L (i+1)).text≠[123]) :
 Calls Tryz.prog 109 #[.pointer (some ⟨r,0,none⟩),.int .i64 (dp:Int)] w (Q9b r base file L lv D (Qxb L (n+2) (.member dp) i) w):=by
 rw[QEe hk,Qoh hb]
 obtain⟨c0,c1,c2,c3,_,_,_,f1,f2,f3,_,_,_,cl⟩:=h.cells
 obtain⟨n1,n2⟩:=h.num
 have HH:=hid h
 have gU:=hid (h.ok.next h.lt (by rw[hk];decide))
 obtain⟨g,cap,rfl,hg,d0,d1,d2,d3,d4,d5⟩:=h.toks.at h.lt
 have gl:g<w.heap.size:=World.block_lt_of_cell? w _ d0
 rw[hk]at d0
 obtain⟨tl,H7⟩:∃t,t=(tkN L i).line:=⟨_,rfl⟩
 obtain⟨tc,Gb⟩:∃t,t=(tkN L i).col:=⟨_,rfl⟩
 rw[←H7]at d4
 rw[←Gb]at d5
 have KF:=hid H7
 have KE:=hid Gb
 clear H7 Gb
 have hN:=Qca.new w #[.int .i64 0,.int .i64 0,.int .i64 0] 27
 have Hl:Below w.heap.size w (w.alloc (.cells #[.int .i64 0,.int .i64 0,.int .i64 0] 27)):=(Below.refl _ _).alloc (Nat.le_refl _) _
 have c0':=(Hl.cell cl).trans c0
 have c1':=(Hl.cell cl).trans c1
 have d3':=(Hl.cell gl).trans d3
 have d4':=(Hl.cell gl).trans d4
 have d5':=(Hl.cell gl).trans d5
 obtain⟨m0,m1,m2,mf0,mf1,mf2,ml⟩:=three hN
 have hM:=(Qca.new w #[.int .i64 file,.int .i64 tl,.int .i64 tc] 27).drew
 have Hd:Qaa (fun _=>False) w (w.alloc (.cells #[.int .i64 file,.int .i64 tl,.int .i64 tc] 27)).drew:=((Qaa.refl _ w).alloc _).drew
 have h3:=h.keeps Hd
 obtain⟨x0,x1,x2,_,_,_,xl⟩:=three hM
 obtain⟨y0,y1,_,y3,_,_,_,z1,_,z3,_,_,_,yl⟩:=h3.cells
 have e0:=(Hd.cell (p:=⟨g,i*6,none⟩) gl (fun e=>e)).trans d0
 have gl3:=Nat.lt_of_lt_of_le gl Hd.size
 have H3:=hid h3
 have gh:=hid Hd
 have HM:=hid hM
 have GK:=hid (fun wx hx=>Q6h wx r base file L (.slice (some ⟨g,0,none⟩) L.length cap) ov i D hx 1 (by decide))
 have iU:=hid hc
 have HT:=hid (show Qja L 1 (QKa 2) i=if Q5b (tkN L i).text=true then .ok (i+1)else .error (i,1)from by unfold Qja;rw[if_pos hk];rfl)
 obtain⟨T,hT⟩:∃T,T=Qja L 1 (QKa 2) i:=⟨_,rfl⟩
 rw[←hT]at GK HT
 obtain⟨PR,jP⟩:∃R,R=Qvb L (Qgb L) [61] (i+1) []:=⟨_,rfl⟩
 rw[←jP]
 obtain⟨X,hX⟩:∃X,X=txN L i:=⟨_,rfl⟩
 rw[←hX]
 unfold Qbb at GK
 rw[←hX]at GK
 have bk:(dp:Int)≤50:=by omega
 have He:(if Q5b (tkN L i).text=true then Quf PR X (tkN L i).line (tkN L i).col else .error (i,1))=Qfi T (Quf PR X (tkN L i).line (tkN L i).col):=by
  rw[HT.out]
  split <;> rfl
 rw[He,←KF.out,←KE.out]
 have Gr:∀j,T = .ok j→j=i+1:=fun j e=>by
  have h9:=HT.out
  rw[e]at h9
  split at h9
  ·injection h9
  ·cases h9
 have jv:=hid Gr
 have j5:=hid kF
 have jy:=hid jP
 have G2:w.heap.size≠r:=by omega
 have H9:=hid (show ∀b,b<base→¬b=r from fun b hb e=>by have:=h.low;omega)
 clear h hk hb hc hN Hl hM Hd h3 hT HT He jP hX Gr kF
 have sd:Hid (∀wx,Q4a wx r base file L (.slice (some ⟨g,0,none⟩) L.length cap) ov i D→Calls Tryz.prog 65 #[.pointer (some ⟨r,0,none⟩),.int .i64 1,.int .i64 2] wx fun e w'=>∃Y:ByteArray,Qaa (· = r) wx w'∧e = .returned (.string Y)∧RT r base file L (.slice (some ⟨g,0,none⟩) L.length cap) ov D T X Y w'):=hid (fun wx hx=>by
  refine(GK.out wx hx).mono ?_
  rintro e w' ⟨hk,hm⟩
  cases T with
  | ok j=>exact⟨X,hk,hm.1,.inl ⟨j,rfl,rfl,hm.2⟩⟩
  | error q=>exact⟨⟨#[]⟩,hk,hm.1,.inr ⟨q.1,q.2,rfl,hm.2⟩⟩)
 go_enter Tryz.func109,Tryz.ntmps109
 go_wp2_with fail
 go_region
 generalize (w.alloc (.cells #[.int .i64 file,.int .i64 tl,.int .i64 tc] 27)).drew=w3 at *
 clear c0 c1 c2 c3 d0 d1 d2 d3 d4 d5 c0' c1' d3' d4' d5' m0 m1 m2 mf0 mf1 mf2 ml gl cl f1 f2 f3
 go_wp2_with fail
 go_quiet (fail)
 go_wp2_with fail
 go_quiet (fail)
 go_wp2_with fail
 go_quiet (fail)
 go_wp2_with fail
 generalize kH:World.drewN (World.drewN w3 _) _=w5
 have Hs:Qaa (fun _=>False) w3 w5:=by rw[←kH];exact(Qda _ _).trans (Qda _ _) (fun _ _ e=>e)
 have H5:=hid (H3.out.keeps Hs)
 have MU:=hid (HM.out.keeps Hs (fun e=>e))
 have kb:=hid (gh.out.trans Hs (fun _ _ e=>e))
 obtain⟨g',cap',eg,hg',q0,q1,q2,q3,q4,q5⟩:=H5.out.toks.at gU.out
 cases eg
 obtain⟨kd,MJ⟩:∃x,x=(tkN L (i+1)).kind:=⟨_,rfl⟩
 obtain⟨tx,kU⟩:∃x,x=(tkN L (i+1)).text:=⟨_,rfl⟩
 rw[h4]at MJ
 rw[h4]at q0
 rw[←kU]at q1 iU
 clear h4 MJ kU
 have ql:g<w5.heap.size:=World.block_lt_of_cell? w5 _ q0
 obtain⟨b0,b1,_,b3,_,_,_,_,_,_,_,_,_,bl⟩:=H5.out.cells
 generalize (tkN L (i+1)).value=tv at *
 generalize (tkN L (i+1)).line=tl2 at *
 generalize (tkN L (i+1)).col=tc2 at *
 have M2:=Qca.new w5 #[.int .i64 0,.string ⟨#[]⟩,.int .i64 0,.int .i64 0,.int .i64 0,.int .i64 0] 65
 have Gk:Below w5.heap.size w5 (w5.alloc (.cells #[.int .i64 0,.string ⟨#[]⟩,.int .i64 0,.int .i64 0,.int .i64 0,.int .i64 0] 65)):=(Below.refl _ _).alloc (Nat.le_refl _) _
 have b0':=(Gk.cell bl).trans b0
 have b1':=(Gk.cell bl).trans b1
 have q0':=(Gk.cell ql).trans q0
 have q1':=(Gk.cell ql).trans q1
 have q2':=(Gk.cell ql).trans q2
 have q3':=(Gk.cell ql).trans q3
 have q4':=(Gk.cell ql).trans q4
 have q5':=(Gk.cell ql).trans q5
 obtain⟨g0,g1,g2,g3,g4,g5⟩:=QWb M2
 obtain⟨o0,o1,o2,o3,o4,o5⟩:=Qga M2
 have Hh:=M2.lt
 have Hz:Qaa (fun _=>False) w5 (w5.alloc (.cells #[.int .i64 4,.string ⟨tx.toArray⟩,.int .i64 tv,.int .i64 file,.int .i64 tl2,.int .i64 tc2] 65)).drew:=((Qaa.refl _ w5).alloc _).drew
 have M1:=(Qca.new w5 #[.int .i64 4,.string ⟨tx.toArray⟩,.int .i64 tv,.int .i64 file,.int .i64 tl2,.int .i64 tc2] 65).drew
 obtain⟨u0,u1,_,_,_,_⟩:=Qga M1
 have ul:=M1.lt
 have h6:=H5.out.keeps Hz
 have K2:=hid (MU.out.keeps Hz (fun e=>e))
 have gH:=hid ((kb.out.trans Hz (fun _ _ e=>e)).mono (S:=(· = r)) (fun _ _ e=>e.elim))
 obtain⟨s0,s1,_,s3,_,_,_,r1,_,_,_,_,_,sl⟩:=h6.cells
 have H6:=hid h6
 have rF:=hid M1
 have KX:IntKind.i64.wrap (((i:Nat):Int)+1)=((i:Nat):Int)+1:=IntWalk.i64_in _ (by omega)
 have Mp:(0:Int)≤((i:Nat):Int)+1:=by omega
 have k8:((i:Nat):Int)+1<(L.length:Int):=by have:=gU.out;omega
 have jd:(((i:Nat):Int)+1).toNat=i+1:=by omega
 clear M2 Gk Hz M1 h6 Hs
 go_region
 generalize (w5.alloc (.cells #[.int .i64 4,.string ⟨tx.toArray⟩,.int .i64 tv,.int .i64 file,.int .i64 tl2,.int .i64 tc2] 65)).drew=w6 at *
 clear KX Mp k8 jd b0 b1 b3 bl b0' b1' q0 q1 q2 q3 q4 q5 q0' q1' q2' q3' q4' q5' g0 g1 g2 g3 g4 g5 o0 o1 o2 o3 o4 o5 Hh ql
 have tI:(tx == [123])=false:=by rw[beq_eq_false_iff_ne];exact iU.out
 have htb2:((⟨tx.toArray⟩:ByteArray).toList == [123])=false:=by rw[beq_eq_false_iff_ne,ByteArray.toList_eq];simpa using iU.out
 go_wp2_with fail
 have GM:=HH.out.size
 go_upto_region 21 with fail
 refine wp_region_any (by kernel_rfl) ?_
 refine QAc (ops':=Q5e) (by kernel_rfl) ?_
 refine Qyg r base w.heap.size file L (.slice (some ⟨g,0,none⟩) L.length cap) ov i D T X tl tc w w6.drew _ ?_ HH.out (fun j e=>by have:=jv.out j e;omega) G2 (H6.out.keeps ((Qaa.refl _ _).drew)) K2.out.drew (fun wx hx=>sd.out wx hx) ?_ ?_ gH.out.drew ?_
 ·rfl
 ·rfl
 ·rfl
 intro c w8 Z Y Ky gE c7 fH lc M3 sH
 obtain⟨y136,y137,y138,y139,y7,hc⟩:=Ky.ex [136,137,138,139,7] (by kernel_rfl)
 subst hc
 simp only[List.setIfInBounds_toArray,List.set_cons_zero,List.set_cons_succ]at c7 ⊢
 have e7:y7 = .pointer (some ⟨Z,0,none⟩):=c7
 subst e7
 unfold Qbo at fH
 have aO:=hid fH
 have Kz:=hid gE
 clear c7 Ky fH gE
 rcases sH with⟨jw,e1,rfl,MD⟩|⟨k,c,e1,cn⟩
 ·have ax:=hid (jv.out jw e1)
  subst e1
  have GG:=hid MD
  have mp:=hid (QZb w8 r base file L (.slice (some ⟨g,0,none⟩) L.length cap) ov jw D MD 4 [61] (by decide))
  obtain⟨_,b1,_,b3,_,_,_,f1,_,_,_,_,_,bl⟩:=MD.cells
  have rY:=hid (MD.num)
  obtain⟨n5,n6⟩:=MD.num
  clear MD
  cases hq:isK L jw 4 [61]with
  | false=>
   rw[hq]at mp
   have mN:=hid (show PR = .ok (jw,[])from by
    rw[jy.out,←ax.out,show Qgb L=L.length+1 from rfl,Qvb,if_neg (by rw[hq];exact Bool.false_ne_true)])
   have ay:=hid (show D.length≤2*jw from by have:=j5.out;have:=ax.out;omega)
   clear hq
   go_wp2_with fail
   refine(by exact mp.out:Calls _ _ _ _ _).mono ?_
   rintro e w9 ⟨rfl,G9⟩
   have qQ:=hid (GG.out.keeps G9)
   have aP:=hid (aO.out.keeps G9 (fun e=>e))
   have Mr:=hid (Kz.out.trans G9 (fun _ _ e=>e.elim))
   obtain⟨s0,s1,s2,s3,s4,s5,s6⟩:=Qna aP.out
   have sl:=aP.out.lt
   have Kf:=hid (Qqb w9 r base file L (.slice (some ⟨g,0,none⟩) L.length cap) ov jw D ⟨3,⟨#[]⟩,Y,[],tl,tc⟩ (.slice none 0 0) qQ.out (Qha.none _ _) (by have:=ay.out;omega))
   clear G9
   go_wp2_with fail
   refine(by exact Kf.out:Calls _ _ _ _ _).mono ?_
   rintro e wa ⟨rfl,ova,Kw,M6⟩
   have gA:=hid (Qtb wa r base file L _ ova jw _ Kw [59] (by decide))
   have jZ:=hid ((Mr.out.below HH.out.size H9.out).trans M6)
   have eS:=hid Kw.size
   clear Kw M6
   go_wp2_with fail
   refine(by exact gA.out:Calls _ _ _ _ _).mono ?_
   rintro e wb ⟨rfl,kR,t1,t2⟩
   have GQ:=hid (And.intro t1 t2)
   have K7:=hid (jZ.out.trans (kR.below eS.out H9.out))
   clear kR t1 t2
   go_wp2_with fail
   refine bodyPost_ret (results_none rfl _ _ _) rfl ?_
   refine⟨rfl,K7.out,?_⟩
   rw[mN.out]
   cases hg:isK L jw 4 [59]with
   | true=>
    rw[show QDc L (Qfi (.ok jw) (Quf (.ok (jw,[])) Y tl tc))=_ from QJc hg]
    exact⟨ova,GQ.out.1 hg,by simp;have:=ay.out;omega⟩
   | false=>
    rw[show QDc L (Qfi (.ok jw) (Quf (.ok (jw,[])) Y tl tc))=_ from Qcc hg]
    exact GQ.out.2 hg
  | true=>
   rw[hq]at mp
   have rI:=hid (GG.out.ok.next GG.out.lt (by rw[(Qqc (by decide) hq).1];decide))
   have JA:=hid (show(match Qsb L (jw+1)with
    | .ok (k,q)=>Qvb L L.length [44] k (([]:List QRa)++[q])
    | .error e=>.error e)=PR from by
    rw[jy.out,←ax.out,show Qgb L=L.length+1 from rfl,Qvb,if_pos hq]
    cases Qsb L (jw+1) <;> rfl)
   clear hq
   go_wp2_with fail
   refine(by exact mp.out:Calls _ _ _ _ _).mono ?_
   rintro e w9 ⟨rfl,G9⟩
   have ft:=GG.out.keeps G9
   have aP:=hid (aO.out.keeps G9 (fun e=>e))
   have Mr:=hid (Kz.out.trans G9 (fun _ _ e=>e.elim))
   obtain⟨_,b1,_,b3,_,_,_,f1,_,_,_,_,_,bl⟩:=ft.cells
   obtain⟨gy,gB⟩:=ft.step rI.out
   have MO:=hid gy
   have MW:=hid (aP.out.keeps gB M3)
   have az:=hid (Mr.out.trans gB (fun _ _ e=>e))
   clear G9 ft gy gB
   have eP:=hid (QEb.none w9 w.heap.size base)
   go_upto_region 24 with fail
   generalize w9.setCell ⟨r,1,none⟩ (.int .i64 ((jw:Int)+1))=w10 at *
   obtain⟨vs,ky,Hc,gf⟩:=QEb.none w10 w.heap.size base
   clear b1 b3 f1 bl
   refine wp_region_any (by kernel_rfl) ?_
   refine QAc (ops':=QZd) (by kernel_rfl) ?_
   refine Q1i r base Z file L (.slice (some ⟨g,0,none⟩) L.length cap) ov (.slice none 0 0) (.int .i64 3) (.string ⟨#[]⟩) (.string Y) (.int .i64 file) (.int .i64 tl) (.int .i64 tc) D i (jw+1) [] vs w w10.drew _ ?_ HH.out (by have:=ax.out;omega) (MO.out.keeps ((Qaa.refl _ _).drew)) MW.out.drew M3 lc ky (Qba Hc ((Qaa.refl (fun _=>False) _).drew) (fun _ _ e=>e)) (fun k h _=>by simp at h) (by simp) ?_ ?_ az.out.drew ?_
   ·rfl
   ·rfl
   ·rfl
   intro c w11 p1 v8 Ky bC Jj Ji aZ
   obtain⟨y156,y157,y158,y159,y160,y161,y162,hc⟩:=Ky.ex [156,157,158,159,160,161,162] (by kernel_rfl)
   subst hc
   simp only[List.setIfInBounds_toArray,List.set_cons_zero,List.set_cons_succ]
   have eZ:=hid Jj
   have eD:=hid bC
   have eM:=hid Ji
   have cR:=hid (show(∃j,Hid (Q4a w11 r base file L (.slice (some ⟨g,0,none⟩) L.length cap) ov j D)∧Hid (Qvb L L.length [44] j ([]++[p1])=PR)∧Hid (L.length+1≤j+L.length∧([]++[p1]).length≤j∧i≤j))∨(∃k c,Hid (PR = .error (k,c))∧Hid (QIb w11 r file L k c))from by
    have h9:=JA.out
    rcases aZ with⟨k,e,ha⟩|⟨k,c,e,hb⟩
    ·have kK:=QGe e
     rw[e]at h9
     exact .inl ⟨k,hid ha,hid h9,hid ⟨by omega,by simp;omega,by have:=ax.out;omega⟩⟩
    ·rw[e]at h9
     exact .inr ⟨k,c,hid h9.symm,hid hb⟩)
   clear Ky Jj bC Ji aZ Hc gf ky MO MW az aP Mr GG aO Kz eP
   go_wp2_with fail
   go_loopg [] (L.length) (fun f wr=>∃(acc:List QRa) (cv:Value),Hid (Qca wr Z #[.int .i64 3,.string ⟨#[]⟩,.string Y,cv,.int .i64 file,.int .i64 tl,.int .i64 tc] 34)∧Hid (QEb wr w.heap.size base cv acc)∧Hid (Qaa (· = r) w wr)∧((∃j,Hid (Q4a wr r base file L (.slice (some ⟨g,0,none⟩) L.length cap) ov j D)∧Hid (Qvb L f [44] j acc=PR)∧Hid (L.length+1≤j+f∧acc.length≤j∧i≤j))∨(∃k c,Hid (PR = .error (k,c))∧Hid (QIb wr r file L k c))))
   case atStart=>exact⟨[]++[p1],v8,eZ,eM,eD,cR.out⟩
   case round=>
    obtain⟨acc,cv,HZ,HP,HK,⟨j,HA,HS,HN⟩|⟨k,c,HE,HB⟩⟩:=hrel
    ·obtain⟨nn,Mo⟩:∃nn,nn+1=gk:=⟨gk-1,by have:=HN.out;have:=HA.out.lt;omega⟩
     have j8:=hid Mo
     have hA:=HA.out
     have KZ:=hid (QZb wr r base file L (.slice (some ⟨g,0,none⟩) L.length cap) ov j D hA 4 [44] (by decide))
     obtain⟨_,b1,_,b3,_,_,_,f1,_,_,_,_,_,bl⟩:=hA.cells
     obtain⟨n7,n8⟩:=hA.num
     have hS:=HS.out
     rw[←Mo,Qvb]at hS
     cases hg:isK L j 4 [44]with
     | false=>
      rw[hg]at KZ
      rw[hg,if_neg Bool.false_ne_true]at hS
      have mN:=hid hS.symm
      have ay:=hid (show D.length≤2*j from by have:=j5.out;have:=HN.out;omega)
      clear hS hg hA Mo
      go_wp2_with fail
      refine(by exact KZ.out:Calls _ _ _ _ _).mono ?_
      rintro e w12 ⟨rfl,GW⟩
      have ef:=hid (HA.out.keeps GW)
      have aN:=hid (HZ.out.keeps GW (fun e=>e))
      have aF:=hid (HP.out.keeps GW (QLa.nil _))
      have eE:=hid (HK.out.trans GW (fun _ _ e=>e.elim))
      clear GW
      obtain⟨va,vc,rfl⟩:=aF.out.slice
      obtain⟨s0,s1,s2,s3,s4,s5,s6⟩:=Qna aN.out
      have sl:=aN.out.lt
      have Kf:=hid (Qqb w12 r base file L (.slice (some ⟨g,0,none⟩) L.length cap) ov j D ⟨3,⟨#[]⟩,Y,acc,tl,tc⟩ (.slice va (List.length (acc)) vc) ef.out (aF.out.row GM) (by have:=ay.out;omega))
      go_wp2_with fail
      refine(by exact Kf.out:Calls _ _ _ _ _).mono ?_
      rintro e wa ⟨rfl,ova,Kw,M6⟩
      have gA:=hid (Qtb wa r base file L _ ova j _ Kw [59] (by decide))
      have jZ:=hid ((eE.out.below HH.out.size H9.out).trans M6)
      have eS:=hid Kw.size
      clear Kw M6
      go_wp2_with fail
      refine(by exact gA.out:Calls _ _ _ _ _).mono ?_
      rintro e wb ⟨rfl,kR,t1,t2⟩
      have GQ:=hid (And.intro t1 t2)
      have K7:=hid (jZ.out.trans (kR.below eS.out H9.out))
      clear kR t1 t2
      go_wp2_with fail
      refine bodyPost_ret (results_none rfl _ _ _) rfl ?_
      refine⟨rfl,K7.out,?_⟩
      rw[mN.out]
      cases hg:isK L j 4 [59]with
      | true=>
       rw[show QDc L (Qfi (.ok jw) (Quf (.ok (j,acc)) Y tl tc))=_ from QJc hg]
       exact⟨ova,GQ.out.1 hg,by simp;have:=ay.out;omega⟩
      | false=>
       rw[show QDc L (Qfi (.ok jw) (Quf (.ok (j,acc)) Y tl tc))=_ from Qcc hg]
       exact GQ.out.2 hg
     | true=>
      rw[hg]at KZ
      rw[hg,if_pos rfl]at hS
      have eK:=hid (HA.out.ok.next HA.out.lt (by rw[(Qqc (by decide) hg).1];decide))
      have Ms:=hid hS
      clear hS hg hA Mo
      go_wp2_with fail
      refine(by exact KZ.out:Calls _ _ _ _ _).mono ?_
      rintro e w12 ⟨rfl,GW⟩
      have MX:=HA.out.keeps GW
      obtain⟨_,b1,_,b3,_,_,_,f1,_,_,_,_,_,bl⟩:=MX.cells
      obtain⟨gy,gB⟩:=MX.step eK.out
      have eh:=hid gy
      have fb:=hid ((HZ.out.keeps GW (fun e=>e)).keeps gB M3)
      have eN:=hid ((HP.out.keeps GW (QLa.nil _)).keeps gB (QLa.one MX.holds (by decide) (by decide) (by decide)))
      have eF:=hid ((HK.out.trans GW (fun _ _ e=>e.elim)).trans gB (fun _ _ e=>e))
      clear GW MX gy gB
      go_upto_region 27 with fail
      generalize w12.setCell ⟨r,1,none⟩ (.int .i64 ((j:Int)+1))=w13 at *
      obtain⟨vs,ky,Hc,gf⟩:=eN.out
      clear b1 b3 f1 bl
      refine wp_region_any (by kernel_rfl) ?_
      refine QAc (ops':=Qkc) (by kernel_rfl) ?_
      refine Qrh r base Z file L (.slice (some ⟨g,0,none⟩) L.length cap) ov cv (.int .i64 3) (.string ⟨#[]⟩) (.string Y) (.int .i64 file) (.int .i64 tl) (.int .i64 tc) D i (j+1) acc vs w w13.drew _ ?_ HH.out (by have:=HN.out;omega) (eh.out.keeps ((Qaa.refl _ _).drew)) fb.out.drew M3 lc ky (Qba Hc ((Qaa.refl (fun _=>False) _).drew) (fun _ _ e=>e)) (fun k h h2=>(gf k h h2).keeps ((Qaa.refl (fun _=>False) _).drew) (QLa.nil _)) (by have:=HN.out;omega) ?_ ?_ eF.out.drew ?_
      ·rfl
      ·rfl
      ·rfl
      intro c w14 p2 v9 Ky bD bh aX a8
      obtain⟨y179,y180,y181,y182,y183,y184,y185,hc⟩:=Ky.ex [179,180,181,182,183,184,185] (by kernel_rfl)
      subst hc
      simp only[List.setIfInBounds_toArray,List.set_cons_zero,List.set_cons_succ]
      have eV:=hid (show(∃j,Hid (Q4a w14 r base file L (.slice (some ⟨g,0,none⟩) L.length cap) ov j D)∧Hid (Qvb L nn [44] j (acc++[p2])=PR)∧Hid (L.length+1≤j+nn∧(acc++[p2]).length≤j∧i≤j))∨(∃k c,Hid (PR = .error (k,c))∧Hid (QIb w14 r file L k c))from by
       have h9:=Ms.out
       have hN:=HN.out
       have xG:=j8.out
       rcases a8 with⟨k,e,ha⟩|⟨k,c,e,hb⟩
       ·have kK:=QGe e
        rw[e]at h9
        exact .inl ⟨k,hid ha,hid h9,hid ⟨by omega,by simp;omega,by omega⟩⟩
       ·rw[e]at h9
        exact .inr ⟨k,c,hid h9.symm,hid hb⟩)
      have fd:=hid bh
      have eG:=hid bD
      have eO:=hid aX
      clear Ky bh bD aX a8 Hc gf ky
      go_wp2_with fail
      go_roundg nn
      case measure=>have:=j8.out;omega
      case rel=>exact⟨acc++[p2],v9,fd,eO,eG,eV.out⟩
    ·have mN:=HE.out
     obtain⟨Km,lv',x',ov',hH⟩:=id HB.out
     have b3:=hH.cell 3
     have bl:=hH.lt
     have aa:(c == 0)=false:=by rw[beq_eq_false_iff_ne];exact Km
     have mN:=hid HE.out
     clear hH Km
     obtain⟨va,vc,rfl⟩:=HP.out.slice
     obtain⟨s0,s1,s2,s3,s4,s5,s6⟩:=Qna HZ.out
     have sl:=HZ.out.lt
     go_wp2_with fail
     refine(by exact Q8a wr r file L k c HB.out _ _ _ _ _ _ _ _ _:Calls _ _ _ _ _).mono ?_
     rintro e wa ⟨rfl,Kw,bF⟩
     have jZ:=hid ((HK.out.trans (bF.mono (S:=(· = r)) (fun _ _ e=>e.elim)) (fun _ _ e=>e)).below HH.out.size H9.out)
     have ei:=hid Kw
     have GQ:=hid (Qqa wa r file L k c Kw ⟨#[59]⟩)
     clear Kw bF
     go_wp2_with fail
     refine(by exact GQ.out:Calls _ _ _ _ _).mono ?_
     rintro e wb ⟨rfl,rfl⟩
     go_wp2_with fail
     refine bodyPost_ret (results_none rfl _ _ _) rfl ?_
     rw[mN.out]
     exact⟨rfl,jZ.out,ei.out⟩
 ·subst e1
  have GS:=hid cn
  obtain⟨Km,lv',x',ov',hH⟩:=id cn
  have b3:=hH.cell 3
  have bl:=hH.lt
  have aa:(c == 0)=false:=by rw[beq_eq_false_iff_ne];exact Km
  clear cn hH Km
  obtain⟨s0,s1,s2,s3,s4,s5,s6⟩:=Qna aO.out
  have sl:=aO.out.lt
  go_wp2_with fail
  refine(by exact Q8a w8 r file L k c GS.out _ _ _ _ _ _ _ _ _:Calls _ _ _ _ _).mono ?_
  rintro e wa ⟨rfl,Kw,bF⟩
  have jZ:=hid ((Kz.out.trans (bF.mono (S:=(· = r)) (fun _ _ e=>e.elim)) (fun _ _ e=>e)).below HH.out.size H9.out)
  have ei:=hid Kw
  have GQ:=hid (Qqa wa r file L k c Kw ⟨#[59]⟩)
  clear Kw bF
  go_wp2_with fail
  refine(by exact GQ.out:Calls _ _ _ _ _).mono ?_
  rintro e wb ⟨rfl,rfl⟩
  go_wp2_with fail
  refine bodyPost_ret (results_none rfl _ _ _) rfl ?_
  exact⟨rfl,jZ.out,ei.out⟩
theorem Qfd(L:List Tok)(kind:Int)(f:List UInt8→Bool)(i:Nat)(hk:(tkN L i).kind=kind):(f (tkN L i).text=true∧Qja L kind f i = .ok (i+1))∨(f (tkN L i).text=false∧Qja L kind f i = .error (i,1)):=by
 cases hf:f (tkN L i).text with
 | true=>exact .inl ⟨rfl,by unfold Qja;rw[if_pos hk,if_pos hf]⟩
 | false=>exact .inr ⟨rfl,by unfold Qja;rw[if_pos hk,if_neg (by rw[hf];exact Bool.false_ne_true)]⟩
theorem QOm(r base:Nat)(file:Int)(L:List Tok)(lv:Value)(n:Nat)(hB:∀m,m≤n→B4C r base file L lv m):M4C r base file L lv (n+1):=by
 intro w ov i D dp h kF hn mF
 by_cases h7:(tkN L i).kind=7
 ·exact Q6g n w r base file L lv ov i D h dp (by omega) h7 kF
 ·by_cases h5:(tkN L i).kind=5
  ·rw[QRi h5]
   rcases Qfd L 5 Qra i h5 with⟨hl,e⟩|⟨hl,e⟩
   ·rw[e]
    show Calls _ _ _ _ (Q9b r base file L lv D (match Qja L 1 Q1a (i+1)with
     | .error e=>.error e
     | .ok k=>QDc L (Qxb L n (.body ⟨1,txN L i,txN L (i+1),[],(tkN L i).line,(tkN L i).col⟩ (dp+1)) k)) w)
    by_cases h1:(tkN L (i+1)).kind=1
    ·have hd:=Q1g n r base file L lv w ov i D h dp mF h5 (hB n (Nat.le_refl _)) hl h1 kF hn
     rcases Qfd L 1 Q1a (i+1) h1 with⟨hm,e2⟩|⟨hm,e2⟩
     ·rw[e2]at hd ⊢
      exact hd
     ·rw[e2]at hd ⊢
      exact hd
    ·have hd:=Q2g r base file L lv w ov i D h dp mF h5 hl h1
     rw[show Qja L 1 Q1a (i+1) = .error (i+1,6)from by unfold Qja;rw[if_neg h1]]
     exact hd
   ·rw[e]
    exact Q3g r base file L lv w ov i D h dp mF h5 hl
  ·by_cases h1:(tkN L i).kind=1
   ·have Hh:=h.lt
    obtain⟨m,rfl⟩:∃m,n=m+1:=⟨n-1,by omega⟩
    cases hb:isK L (i+1) 4 [123]with
    | true=>exact Q4g r base file L lv m (hB m (by omega)) w ov i D h dp mF h1 hb kF (by omega)
    | false=>
     by_cases h4:(tkN L (i+1)).kind=4
     ·exact QCg r base file L lv m w ov i D h dp mF h1 hb kF h4 ((Qsp (by decide) hb).resolve_left (fun h=>h h4))
     ·exact QBg r base file L lv m w ov i D h dp mF h1 hb kF h4
   ·have hd:=Q1h w r base file L lv ov i D h dp (by omega) h7 h5 h1
    have e:Qxb L (n+1) (.member dp) i = .error (i,6):=by
     rw[Qxb,if_neg h5,if_neg h1,if_neg (by unfold isK;rw[decide_eq_false h7];exact Bool.false_ne_true),if_neg (by unfold isK;rw[decide_eq_false h7];exact Bool.false_ne_true)]
    rw[e]
    exact hd
theorem Q0q(r base:Nat)(file:Int)(L:List Tok)(lv:Value):∀n m,m≤n→B4C r base file L lv m∧M4C r base file L lv m:=by
 intro n
 induction n with
 | zero=>
  intro m hm
  obtain rfl:m=0:=by omega
  refine⟨fun w ov i D d dp h _ hn _=>?_,fun w ov i D dp h _ hn _=>?_⟩
  all_goals
   have:=h.lt
   omega
 | succ n ih=>
  intro m hm
  by_cases e:m=n+1
  ·subst e
   exact⟨Q5p r base file L lv n (fun m hm=>(ih m hm).2),QOm r base file L lv n (fun m hm=>(ih m hm).1)⟩
  ·exact ih m (by omega)
theorem QLi{L:List Tok}{i:Nat}{s:List UInt8}(h:isK L i 7 s=true):(tkN L i).kind=7:=by
 unfold isK at h
 rw[Bool.and_eq_true,decide_eq_true_eq]at h
 exact h.1
theorem Q1q(r base:Nat)(file:Int)(L:List Tok)(lv:Value)(w:World)(ov:Value)(i:Nat)(D:List Qwa)(h:Q4a w r base file L lv ov i D)(kF:D.length≤2*i) :
 Calls Tryz.prog 34 #[.pointer (some ⟨r,0,none⟩)] w (Q9b r base file L lv D (Qrj L i) w):=by
 have hB:=(Q0q r base file L lv (QEc L) _ (Nat.le_refl _)).1
 have KT:isK L i 4 [47]=true→(tkN L i).kind=4:=fun e=>(Qqc (by decide) e).1
 unfold Qrj
 by_cases h5:(tkN L i).kind=5
 ·rw[if_pos h5]
  rcases Qfd L 5 Qra i h5 with⟨hl,e⟩|⟨hl,e⟩
  ·rw[e]
   show Calls _ _ _ _ (Q9b r base file L lv D (match Qwb L [47] (i+1)with
    | .error e=>.error e
    | .ok k=>Q6l L ⟨1,txN L i,⟨#[47]⟩,[],(tkN L i).line,(tkN L i).col⟩ k) w)
   cases hs:isK L (i+1) 4 [47]with
   | true=>
    rw[show Qwb L [47] (i+1) = .ok (i+1+1)from by unfold Qwb;rw[if_pos hs]]
    exact Qtl r base file L lv w ov i D h hB h5 hl hs kF
   | false=>
    rw[show Qwb L [47] (i+1) = .error (i+1,6)from by unfold Qwb;rw[if_neg (by rw[hs];exact Bool.false_ne_true)]]
    exact Q0j r base file L lv w ov i D h h5 hl hs
  ·rw[e]
   exact Q1j r base file L lv w ov i D h h5 hl
 ·rw[if_neg h5]
  cases hs:isK L i 4 [47]with
  | true=>
   have hk:=KT hs
   have n7:∀s,isK L i 7 s=false:=fun s=>by unfold isK;rw[decide_eq_false (by rw[hk];decide)];rfl
   rw[if_pos rfl]
   exact Q3i r base file L lv w ov i D h hB (n7 _) (n7 _) h5 (by rw[hk];decide) hs kF
  | false=>
   rw[if_neg Bool.false_ne_true]
   by_cases h6:(tkN L i).kind=6
   ·rw[if_pos h6]
    have hd:=Qul r base file L lv w ov i D h hB h6 kF
    rcases Qfd L 6 Qra i h6 with⟨hl,e⟩|⟨hl,e⟩
    ·rw[e]at hd ⊢
     exact hd
    ·rw[e]at hd ⊢
     exact hd
   ·rw[if_neg h6]
    cases h1:isK L i 7 [105,110,99,108,117,100,101]with
    | true=>
     rw[if_pos rfl]
     exact QZj w r base file L lv ov i D h (QLi h1) h1 kF
    | false=>
     rw[if_neg Bool.false_ne_true]
     cases h2:isK L i 7 [100,101,108,101,116,101,45,110,111,100,101]with
     | true=>
      rw[if_pos rfl]
      exact QYj w r base file L lv ov i D h (QLi h2) h1 h2 kF
     | false=>
      rw[if_neg Bool.false_ne_true]
      exact Q2j r base file L lv w ov i D h h1 h2 h5 h6 hs
theorem Qmq{L:List Tok}{i j:Nat}{ds:List Qwa}(h:Qrj L i = .ok (j,ds)):i<j:=by
 have gj:∀{d:Qwa} {k:Nat},i≤k→Q6l L d k = .ok (j,ds)→i<j:=by
  intro d k hk h
  unfold Q6l at h
  cases h1:Qxb L (QEc L) (.body d 0) k with
  | error e=>rw[h1]at h;cases h
  | ok q=>
   rw[h1]at h
   obtain⟨m,xs⟩:=q
   obtain⟨_,_,a,_⟩:=(QRg L (QEc L)).1 _ _ _ _ _ h1
   simp only at h
   unfold Qwb at h
   split at h
   ·cases h
   ·rename_i h2
    split at h2
    ·cases h2;cases h;omega
    ·cases h2
 have oq:∀{kind what:Int} {b:List UInt8} {f:List UInt8→Bool},QVd L kind what b f i = .ok (j,ds)→i<j:=by
  intro kind what b f h
  unfold QVd at h
  cases h1:Qja L what f (i+1)with
  | error e=>rw[h1]at h;cases h
  | ok m=>
   rw[h1]at h
   have:=Qhc h1
   simp only at h
   unfold Qwb at h
   split at h
   ·cases h
   ·rename_i h2
    split at h2
    ·cases h2;cases h;omega
    ·cases h2
 unfold Qrj at h
 split at h
 ·cases h1:Qja L 5 Qra i with
  | error e=>rw[h1]at h;cases h
  | ok a=>
   rw[h1]at h
   have ha:=Qhc h1
   simp only at h
   cases h2:Qwb L [47] a with
   | error e=>rw[h2]at h;cases h
   | ok b=>
    rw[h2]at h
    unfold Qwb at h2
    split at h2
    ·cases h2;exact gj (by omega) h
    ·cases h2
 ·split at h
  ·exact gj (by omega) h
  ·split at h
   ·cases h1:Qja L 6 Qra i with
    | error e=>rw[h1]at h;cases h
    | ok a=>
     rw[h1]at h
     have ha:=Qhc h1
     exact gj (by omega) h
   ·split at h
    ·exact oq h
    ·split at h
     ·exact oq h
     ·cases h
set_option maxRecDepth 100000 in
theorem Q3p(s:ByteArray)(file:Int)(w:World)(hs:s.size≤maxLen) :
 Calls Tryz.prog 14 #[.string s,.int .i64 file] w (Qhf s file w):=by
 have gR:Below w.heap.size w (w.alloc (.cells #[.int .i64 0,.int .i64 0,.int .i64 0] 27)):=(Below.refl _ _).alloc (Nat.le_refl _) _
 have Ki:=Qca.new w #[.int .i64 0,.int .i64 0,.int .i64 0] 27
 have gM:=Quo s file (w.alloc (.cells #[.int .i64 0,.int .i64 0,.int .i64 0] 27)) hs
 have kU:=Qke s.data.toList file
 unfold Qbe QGb at gM
 unfold Qhf
 have hT:∃T,Qoe s.data.toList file=T:=⟨_,rfl⟩
 obtain⟨T,hT⟩:=hT
 rw[hT]
 unfold Qoe at hT
 generalize QUb s.data.toList file=RT at *
 obtain⟨L,⟨p1,p2,p3⟩,er⟩:=RT
 simp only at gM kU hT
 unfold QGb
 have gn:(w.alloc (.cells #[.int .i64 0,.int .i64 0,.int .i64 0] 27)).heap.size=w.heap.size+1:=by simp
 go_enter Tryz.func14,Tryz.ntmps14
 go_wp2_with fail
 generalize w.alloc (.cells #[.int .i64 0,.int .i64 0,.int .i64 0] 27)=w0 at *
 refine(by exact gM:Calls _ _ _ _ _).mono ?_
 rintro e w1 ⟨lv,rfl,Hc,Hf⟩
 have kb1:Qaa (fun _=>False) w0 w1:=Qaa.of_fresh Hf _
 have g9:Qaa (fun _=>False) w w1:=(Qaa.of_fresh gR (fun _=>False)).trans kb1 (fun _ _ e=>e)
 have Gl:=Ki.keeps kb1 (fun e=>e)
 have gw:=Gl.alloc (.cells #[.int .i64 p1,.int .i64 p2,.int .i64 p3] 27)
 have GR:=Qca.new w1 #[.int .i64 p1,.int .i64 p2,.int .i64 p3] 27
 have ga:=g9.alloc (.cells #[.int .i64 p1,.int .i64 p2,.int .i64 p3] 27)
 have Hv:=World.ownsRow.alloc Hc (.cells #[.int .i64 p1,.int .i64 p2,.int .i64 p3] 27)
 have iL:=Gl.lt
 clear gM gR Ki Hf kb1 g9 Hc
 by_cases he:er=0
 ·subst he
  rw[if_neg (by simp)]at hT
  obtain⟨ts,t,fC,h8⟩:=kU.2.2 rfl
  have kT:LOk L:=⟨kU.2.1,kU.1,ts,t,fC,h8⟩
  have Hn:L≠[]:=by rw[fC];simp
  have bQ:0<L.length:=List.length_pos_iff.2 Hn
  have iF:=Qij (B:=(w1.alloc (.cells #[.int .i64 p1,.int .i64 p2,.int .i64 p3] 27)).heap.size) Hv Hn (Nat.le_refl _)
  obtain⟨gL,cL,rfl,_⟩:=id iF
  have gV:(w1.alloc (.cells #[.int .i64 p1,.int .i64 p2,.int .i64 p3] 27)).heap.size=w1.heap.size+1:=by simp
  have Hy:Q4a ((w1.alloc (.cells #[.int .i64 p1,.int .i64 p2,.int .i64 p3] 27)).alloc (.cells #[.slice (some ⟨gL,0,none⟩) L.length cL,.int .i64 0,.slice none 0 0,.int .i64 0,.int .i64 0,.int .i64 0,.int .i64 0] 78)) (w1.heap.size+1) (w1.alloc (.cells #[.int .i64 p1,.int .i64 p2,.int .i64 p3] 27)).heap.size file L (.slice (some ⟨gL,0,none⟩) L.length cL) (.slice none 0 0) 0 []:=
   ⟨Qca.newAt (by simp) _ _,iF.keeps ((Qaa.refl (fun _=>False) _).alloc _) (fun _ e=>e.elim),Q7a.none _ _ _,by simp,by simp,bQ,kT,Nat.zero_le _⟩
  have Gd:=gw.alloc (.cells #[.slice (some ⟨gL,0,none⟩) L.length cL,.int .i64 0,.slice none 0 0,.int .i64 0,.int .i64 0,.int .i64 0,.int .i64 0] 78)
  have gc:=ga.alloc (.cells #[.slice (some ⟨gL,0,none⟩) L.length cL,.int .i64 0,.slice none 0 0,.int .i64 0,.int .i64 0,.int .i64 0,.int .i64 0] 78)
  have KX:w.heap.size<w1.heap.size:=iL
  have KN:L.length<0+Qgb L:=by unfold Qgb;omega
  generalize hN:Qgb L=N at *
  generalize hTR:QDf L N 0 []=TR at *
  have rZ:=hid hTR
  have Ga:=kU.2.1
  rw[gV]at Hy
  clear GR Hv iF gw ga hN hTR kU kT fC gV
  go_wp2_with fail
  generalize (w1.alloc (.cells #[.int .i64 p1,.int .i64 p2,.int .i64 p3] 27)).alloc (.cells #[.slice (some ⟨gL,0,none⟩) L.length cL,.int .i64 0,.slice none 0 0,.int .i64 0,.int .i64 0,.int .i64 0,.int .i64 0] 78)=w3 at *
  go_loopg [] N (fun f wr=>Hid (Qaa (fun b=>w1.heap.size+1≤b) w3 wr)∧((∃(j:Nat) (acc:List Qwa) (ov:Value),Hid (QDf L f j acc=TR)∧Hid (L.length<j+f∧acc.length≤2*j)∧Hid (Q4a wr (w1.heap.size+1) (w1.heap.size+1) file L (.slice (some ⟨gL,0,none⟩) L.length cL) ov j acc))∨(∃k c,Hid (TR = .error (k,c))∧Hid (QIb wr (w1.heap.size+1) file L k c))))
  case atStart=>exact⟨hid (Qaa.refl _ _),.inl ⟨0,[],.slice none 0 0,rZ,hid ⟨KN,Nat.zero_le _⟩,hid Hy⟩⟩
  case round=>
   obtain⟨HK,⟨j,acc,ov,HR,HN,HA⟩|⟨k,c,HE,KY⟩⟩:=hrel
   ·obtain⟨f,hf⟩:∃f,gk=f+1:=⟨gk-1,by have:=HN.out;have:=HA.out.lt;omega⟩
    have hS:=HR.out
    rw[hf,QDf]at hS
    have hA:=HA.out
    obtain⟨c0,c1,c2,c3,c4,c5,c6,_,_,_,_,_,_,cl⟩:=hA.cells
    obtain⟨n1,n2⟩:=hA.num
    obtain⟨g',cap',eg,hg',d0,_⟩:=hA.toks.at hA.lt
    cases eg
    have gl:=World.block_lt_of_cell? wr _ d0
    have HF:=hid hf
    by_cases h8:(tkN L j).kind=8
    ·rw[if_pos h8]at hS
     rw[h8]at d0
     subst hS
     simp only at hT
     subst hT
     have KU:=Gd.keeps HK.out (by omega)
     have GL:Qaa (fun _=>False) w wr:=gc.trans (HK.out.mono (S:=fun b=>w.heap.size<b) (fun b _ e=>by omega)) (fun b hb e=>by omega)
     obtain⟨n0,n1',n2',nf0,nf1,nf2,nl⟩:=three KU
     have hd:=hA.defs
     obtain⟨oa,oc,rfl⟩:=hd.slice
     have HD:=hid hd
     have jM:=hid KU
     have kb:=hid GL
     clear hd KU GL hA h8 hf
     go_wp2_with fail
     have z1:=QTa jM.out (.int .i64 0) (.int .i64 0) (.int .i64 0)
     have z2:=Qva (S:=fun _=>False) kb.out (B:=w.heap.size) (.inl (Nat.le_refl _)) (.int .i64 0) (.int .i64 0) (.int .i64 0)
     have z3:=(HD.out.keeps (Qva (S:=(· = w.heap.size)) (Qaa.refl _ wr) (.inr rfl) (.int .i64 0) (.int .i64 0) (.int .i64 0)) (QLa.one jM.out (by decide) (by decide) (by decide))).lower (show w.heap.size≤w1.heap.size+1 by omega)
     unfold Qzf at z1 z2 z3
     obtain⟨q0,q1,q2,_⟩:=three z1
     exact bodyPost_ret (v:=.tuple #[.slice oa acc.length oc,.agg #[.int .i64 0,.int .i64 0,.int .i64 0],.int .i64 0]) (by simp[results,Tryz.results14,go_sem,q0,q1,q2]) rfl ⟨_,rfl,z3,z2.below (Nat.le_refl _) (fun _ _ e=>e)⟩
    ·rw[if_neg h8]at hS
     have xp:((tkN L j).kind != 8)=true:=by simpa using h8
     have pK:=hid (Q1q (w1.heap.size+1) (w1.heap.size+1) file L (.slice (some ⟨gL,0,none⟩) L.length cL) wr ov j acc hA HN.out.2)
     have pX:=hid (fun m ds h=>@Qmq L j m ds h)
     have HS:=hid hS
     generalize Qrj L j=PR at *
     generalize (tkN L j).kind=kd at *
     clear h8 hA hS hf
     go_wp2_with fail
     refine(by exact pK.out:Calls _ _ _ _ _).mono ?_
     rintro e w5 ⟨rfl,Kx,hm⟩
     have kb:=hid (HK.out.trans (Qaa.of_below Kx) (S:=(fun b=>w1.heap.size+1≤b)) (fun _ _ e=>e))
     clear Kx
     cases PR with
     | ok q=>
      obtain⟨k,ds⟩:=q
      obtain⟨ov6,ms,oe⟩:=hm
      have oM:=pX.out k ds rfl
      have k9:=hid ms
      have qZ:=hid oe
      have Ms:=hid HS.out
      clear ms oe
      go_wp2_with fail
      go_roundg f
      case measure=>have:=HF.out;omega
      case rel=>exact⟨kb,.inl ⟨k,acc++ds,ov6,Ms,hid (by have:=HN.out;have:=HF.out;have h3:=qZ.out;rw[List.length_append];omega),k9⟩⟩
     | error q=>
      obtain⟨k,c⟩:=q
      have KY:=hid hm
      have Ms:=hid HS.out
      clear hm
      go_wp2_with fail
      go_roundg f
      case measure=>have:=HF.out;omega
      case rel=>exact⟨kb,.inr ⟨k,c,hid Ms.out.symm,KY⟩⟩
   ·have hE:=HE.out
    subst hE
    simp only at hT
    subst hT
    obtain⟨Km,lv',x',ov',hH⟩:=id KY.out
    have c3:=hH.cell 3
    have c4:=hH.cell 4
    have c5:=hH.cell 5
    have c6:=hH.cell 6
    have crl:=hH.lt
    have aa:(c == 0)=false:=by rw[beq_eq_false_iff_ne];exact Km
    have hcb2:(c != 0)=true:=by rw[bne_iff_ne];exact Km
    have KV:=Gd.keeps HK.out (by omega)
    have Ku:Qaa (fun _=>False) w wr:=gc.trans (HK.out.mono (S:=fun b=>w.heap.size<b) (fun b _ e=>by omega)) (fun b hb e=>by omega)
    obtain⟨n0,n1,n2,nf0,nf1,nf2,nl⟩:=three KV
    obtain⟨ln,Kl⟩:∃z,z=(tkN L k).line:=⟨_,rfl⟩
    obtain⟨cl,ke⟩:∃z,z=(tkN L k).col:=⟨_,rfl⟩
    rw[←Kl]at c5
    rw[←ke]at c6
    have lT:=hid Kl
    have cC:=hid ke
    have mE:=hid KV
    have gH:=hid Ku
    clear Kl ke KV Ku hH Km
    go_wp2_with fail
    go_region
    all_goals
     go_wp2_with fail
     have z1:=(QTa mE.out (.int .i64 file) (.int .i64 ln) (.int .i64 cl)).drew
     have z2:=(Qva (S:=fun _=>False) gH.out (B:=w.heap.size) (.inl (Nat.le_refl _)) (.int .i64 file) (.int .i64 ln) (.int .i64 cl)).drew
     unfold Qzf at z1 z2
     obtain⟨q0,q1,q2,_⟩:=three z1
     exact bodyPost_ret (v:=.tuple #[.slice none 0 0,.agg #[.int .i64 file,.int .i64 ln,.int .i64 cl],.int .i64 c]) (by simp[results,Tryz.results14,go_sem,q0,q1,q2]) rfl ⟨_,(by rw[lT.out,cC.out]),Q7a.none _ _ _,z2.below (Nat.le_refl _) (fun _ _ e=>e)⟩
 ·rw[if_pos he]at hT
  subst hT
  have li:(er != 0)=true:=by simpa using he
  obtain⟨n0,n1,n2,nf0,nf1,nf2,nl⟩:=three gw
  obtain⟨m0,m1,m2,mf0,mf1,mf2,ml⟩:=three GR
  obtain⟨va,vc,rfl⟩:=Qia Hv
  have mq:=hid gw
  have Gw:=hid ga
  clear he kU gw ga GR Hv
  go_wp2_with fail
  generalize w1.alloc (.cells #[.int .i64 p1,.int .i64 p2,.int .i64 p3] 27)=w2 at *
  go_region
  all_goals
   go_wp2_with fail
   have z1:=(QTa mq.out (.int .i64 p1) (.int .i64 p2) (.int .i64 p3)).drew
   have z2:=(Qva (S:=fun _=>False) Gw.out (B:=w.heap.size) (.inl (Nat.le_refl _)) (.int .i64 p1) (.int .i64 p2) (.int .i64 p3)).drew
   unfold Qzf at z1 z2
   obtain⟨q0,q1,q2,_⟩:=three z1
   exact bodyPost_ret (v:=.tuple #[.slice none 0 0,.agg #[.int .i64 p1,.int .i64 p2,.int .i64 p3],.int .i64 er]) (by simp[results,Tryz.results14,go_sem,q0,q1,q2]) rfl ⟨_,rfl,Q7a.none _ _ _,z2.below (Nat.le_refl _) (fun _ _ e=>e)⟩
end Go.Proofs.YtofhcgbihonckaaGreat
