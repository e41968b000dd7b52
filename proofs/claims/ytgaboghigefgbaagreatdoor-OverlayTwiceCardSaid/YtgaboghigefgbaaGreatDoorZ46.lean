/- slices.Contains at edits that are all of other kinds (printed by govn.py). | overlay's reader: region 3 of note (printed by govn.py). | overlay's reader: region 7 of note (printed by govn.py). | overlay's reader: note, of an edit of another kind than those before. | slices.insertionSortCmpFunc at edits: region 4 (printed by govs.py). | slices.SortFunc at few edits that ascend: nothing is moved. | overlay.Read at the text of awake of bringuplaw13. | overlay.Read at the text of awake of bringuplaw13 (printed by gowr.py). | awake of bringuplaw13. -/
import Derived.Test.YtgaboghigefgbaaGreatDoorZ43
import Derived.Test.YtgaboghigefgbaaGreatDoorZ45
import Derived.BigQuiet
import Derived.Test.YtgaboghigefgbaaGreatDoorZ2
import Derived.IntWalk
import Derived.Test.YtgaboghigefgbaaGreatDoorZ22
import Derived.Deep.DeepCutAuto
import Derived.Deep.CutBlock
import Derived.Test.YtgaboghigefgbaaGreatDoorZ19
set_option linter.all false
set_option maxHeartbeats 8000000
namespace Go.Proofs.YtgaboghigefgbaaGreatDoor
open Go.Lib (hid)
open Go.RowKit
set_option maxRecDepth 100000 in
theorem QDl(v:Value)(l:List Qja)(x:Qja)(w:World)(hE:Qjb w v l)(j9:∀y∈l,x.kind≠y.kind)(hl:l.length≤1000) :
 Calls Tryz.prog 171 #[v,.agg #[.int .i64 x.kind,.string x.path,.string x.name,.string x.value]] w fun e w'=>e = .returned (.int .i64 (-1))∧Below w.heap.size w w':=by
 obtain⟨a,cap,rfl,gM,gB⟩:=hE.slice
 have He:Below w.heap.size w (w.alloc (.cells #[.int .i64 x.kind,.string x.path,.string x.name,.string x.value] 39)):=(Below.refl _ _).alloc (Nat.le_refl _) _
 have jC:=Holds.new w #[.int .i64 x.kind,.string x.path,.string x.name,.string x.value] 39
 have HE:=hid hE
 have Ck:=hid j9
 have G5:=hid He
 have zW:=hid jC
 clear hE j9 He jC
 go_enter Tryz.func171,Tryz.ntmps171
 go_wp2_with fail
 go_loopg [8] (l.length) (fun f y wr=>∃k:Nat,y = .int .i64 k∧k≤l.length∧l.length≤k+f∧Hid (Below w.heap.size w wr)∧Hid (Holds wr w.heap.size #[.int .i64 x.kind,.string x.path,.string x.name,.string x.value] 39))
 case atStart=>exact⟨0,rfl,by omega,by omega,G5,zW⟩
 case round=>
  clear G5 zW
  obtain⟨k,rfl,hk,hf,HB,HH⟩:=hrel
  by_cases Hh:k<l.length
  ·have MX:(k:Int)<(l.length:Int):=by omega
   obtain⟨g,o,e1,hg,H7⟩:=Qwc (HE.out.new HB.out) (by omega)
   subst e1
   obtain⟨d0,d1,d2,d3⟩:=H7 k Hh
   have Hm:(x.kind == l[k].kind)=false:=by simpa using Ck.out _ (List.getElem_mem Hh)
   have c0:=HH.out.cell 0
   have c1:=HH.out.cell 1
   have c2:=HH.out.cell 2
   have c3:=HH.out.cell 3
   have cl:=HH.out.lt
   clear H7
   generalize l[k]=y at *
   go_wp2_with fail
   go_quiet (fail)
   go_wp2_with fail
   go_roundg (gk-1)
   case measure=>omega
   case rel=>exact⟨k+1,by go_num,by omega,by omega,hid (HB.out.trans (Qaa.below (S:=fun _=>False) ((Qaa.refl _ _).drewN _) HB.out.size (fun _ _ e=>e))),hid (HH.out.drewN _)⟩
  ·have MX:¬(k:Int)<(l.length:Int):=by omega
   go_wp2_with fail
   go_ret
   exact⟨rfl,HB.out⟩
set_option maxRecDepth 100000 in
theorem Qsi(v:Value)(l:List Qja)(x:Qja)(w:World)(hE:Qjb w v l)(j9:∀y∈l,x.kind≠y.kind)(hl:l.length≤1000) :
 Calls Tryz.prog 127 #[v,.agg #[.int .i64 x.kind,.string x.path,.string x.name,.string x.value]] w fun e w'=>e = .returned (.bool false)∧Below w.heap.size w w':=by
 obtain⟨a,cap,rfl,gM,gB⟩:=hE.slice
 have He:Below w.heap.size w (w.alloc (.cells #[.int .i64 x.kind,.string x.path,.string x.name,.string x.value] 39)):=(Below.refl _ _).alloc (Nat.le_refl _) _
 have HI:=hid (QDl (.slice a l.length cap) l x _ (hE.new He) j9 hl)
 clear hE j9
 go_enter Tryz.func127,Tryz.ntmps127
 go_wp2_with fail
 refine(by exact HI.out:Calls _ _ _ _ _).mono ?_
 rintro e w1 ⟨rfl,Hb⟩
 go_wp2_with fail
 go_ret
 exact⟨rfl,He.trans (Hb.mono He.size)⟩
theorem Q2s(x y:Qja)(cb:Nat)(w:World)(hH:Holds w cb #[.int .i64 x.kind,.string x.path,.string x.name,.string x.value] 39) :
 Calls Tryz.prog 126 #[.agg #[.int .i64 y.kind,.string y.path,.string y.name,.string y.value],.pointer (some ⟨cb,0,none⟩)] w fun e w'=>e = .returned (.bool (Qgb x y))∧Below w.heap.size w w':=by
 have He:Below w.heap.size w (w.alloc (.cells #[.int .i64 y.kind,.string y.path,.string y.name,.string y.value] 39)):=(Below.refl _ _).alloc (Nat.le_refl _) _
 have c0:=hH.cell 0
 have c1:=hH.cell 1
 have c2:=hH.cell 2
 have c3:=hH.cell 3
 have cl:=hH.lt
 have HC:=hid (fun wx=>QJk x y wx)
 generalize Qgb x y=R at *
 clear hH
 go_enter Tryz.func126,Tryz.ntmps126
 go_wp2_with fail
 refine(by exact HC.out _:Calls _ _ _ _ _).mono ?_
 rintro e w1 ⟨rfl,Hb⟩
 go_wp2_with fail
 go_ret
 exact⟨rfl,He.trans (Hb.mono He.size)⟩
theorem Qek:∀args w,(callFunc 126 args).run Tryz.prog w = .ok (.enter 126 args) w:=enters_of Tryz.func126 (by kernel_rfl) rfl
noncomputable def QAi:Array Oper:=(QXa (Tryz.f87.body.getD .skip) 3).getD #[]
theorem ofR:Qjc .any QAi=true:=by kernel_rfl
theorem Qtt:Qbc QAi=true:=by kernel_rfl
theorem Qvu:QAi.size=6:=by kernel_rfl
def OfF(rb _:Nat)(_ ev:Value)(x:Qja)(_:List Qja)(j:Nat):Value→World→Prop:=match j with
 | 0=>fun u _=>u = .pointer (some ⟨rb,0,none⟩)
 | 1=>fun u _=>u = .pointer (some ⟨rb,0,none⟩)
 | 2=>fun u _=>u = .pointer (some ⟨rb,1,none⟩)
 | 3=>fun u _=>u=ev
 | 4=>fun u _=>u = .agg #[.int .i64 x.kind,.string x.path,.string x.name,.string x.value]
 | 5=>fun u _=>u = .bool false
 | _=>fun _ _=>True
def OfC(rb xb:Nat)(ov ev:Value)(x:Qja)(es:List Qja)(w:World):Prop:=Holds w rb #[ov,ev] 120∧Holds w xb #[.int .i64 x.kind,.string x.path,.string x.name,.string x.value] 39∧Qjb w ev es
section
variable{rb xb:Nat}{ov ev:Value}{x:Qja}{es:List Qja}{w w':World}
theorem OfF.stable{j:Nat}{u:Value}(h:OfF rb xb ov ev x es j u w)(k:Below w.heap.size w w'):OfF rb xb ov ev x es j u w':=by
 unfold OfF at *
 split at h
 all_goals first
  | exact h
  | (obtain⟨nB,e,hh⟩:=h;exact⟨nB,e,hh.keeps (Qaa.of_fresh k (fun _=>False)) (fun e=>e)⟩)
end
set_option maxRecDepth 100000 in
theorem Q0n{Q:Exit→Act→World→Prop}(rb xb:Nat)(ov ev:Value)(x:Qja)(es:List Qja)(W w:World)(A:Act)(hsz:A.tmps.size=33)(hnoe:∀y∈es,x.kind≠y.kind)(hlen:es.length≤1000)
 (a0:A.tmps.getD 0 undef = .pointer (some ⟨rb,0,none⟩)) (a3:A.tmps.getD 3 undef = .pointer (some ⟨xb,0,none⟩)) (hC0:OfC rb xb ov ev x es W) (hE0:Below W.heap.size W w)
 (hQ:∀c w',Qrb QAi A c→c.tmps.getD 16 undef = .bool false→Below W.heap.size W w'→Q .normal c w') :
 wpAny Tryz.prog .any QAi Q QAi.size (Array.replicate QAi.size false) A w:=by
 refine QVa (fun l c wx=>QAb QAi A (OfF rb xb ov ev x es) (fun _=>True) l c wx∧Below W.heap.size W wx) ofR ?hend ?Hk _ _ _ _ (by simp) (by simp) ⟨QAb.start trivial,hE0⟩
 case hend=>
  rintro l c wx ⟨hI,hS⟩ hl
  have hh:∀k,k<6→l.getD k false=true:=fun k hk=>hl k (by rw[Qvu];exact hk)
  exact hQ c wx hI.1.1 (hI.fact 5 16 rfl (hh 5 (by decide))) hS
 intro l c wx mw i' op ho hl Ha K' hK'
 obtain⟨hI,hS⟩:=mw
 have mg:l.size=6:=by rw[hI.1.2.2.1.1,Qvu]
 have hi':i'<6:=by rw[←Qvu];exact(Array.getElem?_eq_some_iff.1 ho).1
 have Hf:=ho
 simp only[QAi,QXa,Tryz.f87,Option.getD_some,reduceIte,Nat.reduceEqDiff]at ho
 have s0:=(hI.slot 0 (by kernel_rfl)).trans a0
 have s3:=(hI.slot 3 (by kernel_rfl)).trans a3
 have fs:=And.intro True.intro True.intro
 simp only[Array.getD_eq_getD_getElem?]at s0 s3
 have GV:i'=0∨i'=1∨i'=2∨i'=3∨i'=4∨i'=5:=by omega
 clear hi'
 rcases GV with rfl|rfl|rfl|rfl|rfl|rfl
 all_goals cases ho
 ·go_simp
  exact hK' _ _ ⟨hI.step Qtt 0 11 rfl (by rw[hsz];decide) _ _ Hf Ha trivial (fun _ _ h=>h) rfl,hS⟩
 ·have e0:c.tmps.getD 11 undef = .pointer (some ⟨rb,0,none⟩):=hI.fact 0 11 rfl (hI.1.2.2.1.2.yes_far 6 Hf Ha (by decide) (by kernel_rfl))
  have f0:=e0
  simp only[Array.getD_eq_getD_getElem?]at e0
  go_simp
  exact hK' _ _ ⟨hI.step Qtt 1 12 rfl (by rw[hsz];decide) _ _ Hf Ha trivial (fun _ _ h=>h) rfl,hS⟩
 ·have e1:c.tmps.getD 12 undef = .pointer (some ⟨rb,0,none⟩):=hI.fact 1 12 rfl (hI.1.2.2.1.2.yes_far 6 Hf Ha (by decide) (by kernel_rfl))
  have f1:=e1
  simp only[Array.getD_eq_getD_getElem?]at e1
  go_simp
  exact hK' _ _ ⟨hI.step Qtt 2 13 rfl (by rw[hsz];decide) _ _ Hf Ha trivial (fun _ _ h=>h) rfl,hS⟩
 ·have e2:c.tmps.getD 13 undef = .pointer (some ⟨rb,1,none⟩):=hI.fact 2 13 rfl (hI.1.2.2.1.2.yes_far 6 Hf Ha (by decide) (by kernel_rfl))
  have f2:=e2
  simp only[Array.getD_eq_getD_getElem?]at e2
  have hc:OfC rb xb ov ev x es wx:=⟨hC0.1.keeps (Qaa.of_fresh hS (fun _=>False)) (fun e=>e),hC0.2.1.keeps (Qaa.of_fresh hS (fun _=>False)) (fun e=>e),hC0.2.2.new hS⟩
  have x0:=hc.1.cell 1
  have xl:=hc.1.lt
  go_simp
  exact hK' _ _ ⟨hI.step Qtt 3 14 rfl (by rw[hsz];decide) _ _ Hf Ha trivial (fun _ _ h=>h) rfl,hS⟩
 ·have hc:OfC rb xb ov ev x es wx:=⟨hC0.1.keeps (Qaa.of_fresh hS (fun _=>False)) (fun e=>e),hC0.2.1.keeps (Qaa.of_fresh hS (fun _=>False)) (fun e=>e),hC0.2.2.new hS⟩
  have x0:=hc.2.1.cell 0
  have x1:=hc.2.1.cell 1
  have x2:=hc.2.1.cell 2
  have x3:=hc.2.1.cell 3
  have xl:=hc.2.1.lt
  go_simp
  exact hK' _ _ ⟨hI.step Qtt 4 15 rfl (by rw[hsz];decide) _ _ Hf Ha trivial (fun _ _ h=>h) rfl,hS⟩
 ·have e3:c.tmps.getD 14 undef=ev:=hI.fact 3 14 rfl (hI.1.2.2.1.2.yes_far 6 Hf Ha (by decide) (by kernel_rfl))
  have f3:=e3
  simp only[Array.getD_eq_getD_getElem?]at e3
  have e4:c.tmps.getD 15 undef = .agg #[.int .i64 x.kind,.string x.path,.string x.name,.string x.value]:=hI.fact 4 15 rfl (hI.1.2.2.1.2.yes_far 6 Hf Ha (by decide) (by kernel_rfl))
  have f4:=e4
  simp only[Array.getD_eq_getD_getElem?]at e4
  have hc:OfC rb xb ov ev x es wx:=⟨hC0.1.keeps (Qaa.of_fresh hS (fun _=>False)) (fun e=>e),hC0.2.1.keeps (Qaa.of_fresh hS (fun _=>False)) (fun e=>e),hC0.2.2.new hS⟩
  go_simp
  refine(Qsi ev es x wx hc.2.2 hnoe hlen).mono ?_
  rintro e w2 ⟨rfl,Hc⟩
  exact hK' _ _ ⟨hI.step Qtt 5 16 rfl (by rw[hsz];decide) _ _ Hf Ha trivial (fun _ _ h=>OfF.stable h Hc) rfl,hS.trans (Hc.mono hS.size)⟩
noncomputable def Qpe:Array Oper:=(QXa (Tryz.f87.body.getD .skip) 7).getD #[]
theorem ogR:Qjc .any Qpe=true:=by kernel_rfl
theorem QIq:Qbc Qpe=true:=by kernel_rfl
theorem Qwu:Qpe.size=11:=by kernel_rfl
theorem Qhr{w:World}{B:Nat}{x:Qja}(h:Holds w B #[.int .i64 x.kind,.string x.path,.string x.name,.string x.value] 39):Src Tryz.prog 4 29 (.slice (some ⟨B,0,none⟩) 1 1) 1 [.int .i64 x.kind,.string x.path,.string x.name,.string x.value] w:=
 Src.ofSlice w Tryz.underlying29 ⟨B,0,none⟩ 1 1 _ rfl (fun j u hu=>World.news_of_block (cs:=#[.int .i64 x.kind,.string x.path,.string x.name,.string x.value]) (t:=39) (fr:=(0,0)) h j u hu) (fun u hu=>by simp at hu;rcases hu with rfl|rfl|rfl|rfl <;> rfl)
def OgF(_ rb _ _:Nat)(_ ev:Value)(x:Qja)(_:List Value)(nB:Nat)(rv:Value)(j:Nat):Value→World→Prop:=match j with
 | 0=>fun u _=>u = .pointer (some ⟨rb,0,none⟩)
 | 1=>fun u _=>u = .pointer (some ⟨rb,0,none⟩)
 | 2=>fun u _=>u = .pointer (some ⟨rb,0,none⟩)
 | 3=>fun u _=>u = .pointer (some ⟨rb,1,none⟩)
 | 4=>fun u _=>u=ev
 | 5=>fun u _=>u = .agg #[.int .i64 x.kind,.string x.path,.string x.name,.string x.value]
 | 6=>fun u _=>u = .slice (some ⟨nB,0,none⟩) 1 1
 | 7=>fun u _=>u=rv
 | 8=>fun u _=>u = .pointer (some ⟨rb,0,none⟩)
 | 9=>fun u _=>u = .pointer (some ⟨rb,1,none⟩)
 | _=>fun _ _=>True
def OgC(_ rb xb _:Nat)(ov ev:Value)(x:Qja)(_:List Value)(_ w:World):Prop:=Holds w rb #[ov,ev] 120∧Holds w xb #[.int .i64 x.kind,.string x.path,.string x.name,.string x.value] 39
def OgE(base rb _ n:Nat)(ov ev:Value)(x:Qja)(xs:List Value)(nB:Nat)(rv:Value)(W w:World)(l:Array Bool):Prop:=
 if l.getD 6 false=false then(Qaa (fun _=>False) W w)else
 if l.getD 7 false=false then(Qaa (fun _=>False) W w∧Holds w nB #[.int .i64 x.kind,.string x.path,.string x.name,.string x.value] 39∧W.heap.size≤nB)else
 if l.getD 10 false=false then(w.ownsRow base 39 4 rv (n+1) (xs++[.int .i64 x.kind,.string x.path,.string x.name,.string x.value])∧Qaa (fun b=>ev.ownBlock=some b) W w)else
 ∃w3,w=w3.setCell ⟨rb,1,none⟩ rv∧w3.ownsRow base 39 4 rv (n+1) (xs++[.int .i64 x.kind,.string x.path,.string x.name,.string x.value])∧Qaa (fun b=>ev.ownBlock=some b) W w3∧Holds w3 rb #[ov,ev] 120
section
variable{base rb xb n:Nat}{ov ev:Value}{x:Qja}{xs:List Value}{nB:Nat}{rv:Value}{W w:World}{l:Array Bool}
theorem OgE.other{j:Nat}(h:OgE base rb xb n ov ev x xs nB rv W w l)(n0:j≠6)(n1:j≠7)(n2:j≠10):OgE base rb xb n ov ev x xs nB rv W w (l.setIfInBounds j true):=by
 unfold OgE at h ⊢
 rw[Qdb n0,Qdb n1,Qdb n2]
 exact h
theorem OgE.at0(h:OgE base rb xb n ov ev x xs nB rv W w l)(no:l.getD 6 false=false):Qaa (fun _=>False) W w:=by
 unfold OgE at h
 rw[no,if_pos rfl]at h
 exact h
theorem OgE.to0(hs:6<l.size)(no:l.getD 7 false=false)(h:Qaa (fun _=>False) W w∧Holds w nB #[.int .i64 x.kind,.string x.path,.string x.name,.string x.value] 39∧W.heap.size≤nB):OgE base rb xb n ov ev x xs nB rv W w (l.setIfInBounds 6 true):=by
 unfold OgE
 rw[Q9b hs,if_neg (by simp)]
 rw[Qdb (show 6≠7 by decide),no,if_pos rfl]
 exact h
theorem OgE.at1(h:OgE base rb xb n ov ev x xs nB rv W w l)(y0:l.getD 6 false=true)(no:l.getD 7 false=false):Qaa (fun _=>False) W w∧Holds w nB #[.int .i64 x.kind,.string x.path,.string x.name,.string x.value] 39∧W.heap.size≤nB:=by
 unfold OgE at h
 rw[y0,if_neg (by simp)]at h
 rw[no,if_pos rfl]at h
 exact h
theorem OgE.to1(y0:l.getD 6 false=true)(hs:7<l.size)(no:l.getD 10 false=false)(h:w.ownsRow base 39 4 rv (n+1) (xs++[.int .i64 x.kind,.string x.path,.string x.name,.string x.value])∧Qaa (fun b=>ev.ownBlock=some b) W w):OgE base rb xb n ov ev x xs nB rv W w (l.setIfInBounds 7 true):=by
 unfold OgE
 rw[Qdb (show 7≠6 by decide),y0,if_neg (by simp)]
 rw[Q9b hs,if_neg (by simp)]
 rw[Qdb (show 7≠10 by decide),no,if_pos rfl]
 exact h
theorem OgE.at2(h:OgE base rb xb n ov ev x xs nB rv W w l)(y0:l.getD 6 false=true)(y1:l.getD 7 false=true)(no:l.getD 10 false=false):w.ownsRow base 39 4 rv (n+1) (xs++[.int .i64 x.kind,.string x.path,.string x.name,.string x.value])∧Qaa (fun b=>ev.ownBlock=some b) W w:=by
 unfold OgE at h
 rw[y0,if_neg (by simp)]at h
 rw[y1,if_neg (by simp)]at h
 rw[no,if_pos rfl]at h
 exact h
theorem OgE.to2(y0:l.getD 6 false=true)(y1:l.getD 7 false=true)(hs:10<l.size)(h:∃w3,w=w3.setCell ⟨rb,1,none⟩ rv∧w3.ownsRow base 39 4 rv (n+1) (xs++[.int .i64 x.kind,.string x.path,.string x.name,.string x.value])∧Qaa (fun b=>ev.ownBlock=some b) W w3∧Holds w3 rb #[ov,ev] 120):OgE base rb xb n ov ev x xs nB rv W w (l.setIfInBounds 10 true):=by
 unfold OgE
 rw[Qdb (show 10≠6 by decide),y0,if_neg (by simp)]
 rw[Qdb (show 10≠7 by decide),y1,if_neg (by simp)]
 rw[Q9b hs,if_neg (by simp)]
 exact h
theorem OgF.ghost0{nB':Nat}{j:Nat}{u:Value}(h:OgF base rb xb n ov ev x xs nB rv j u w)(n0:j≠6):OgF base rb xb n ov ev x xs nB' rv j u w:=by
 unfold OgF at *
 split at h
 all_goals first
  | exact h
  | exact absurd rfl n0
theorem OgF.ghost1{rv':Value}{j:Nat}{u:Value}(h:OgF base rb xb n ov ev x xs nB rv j u w)(n0:j≠7):OgF base rb xb n ov ev x xs nB rv' j u w:=by
 unfold OgF at *
 split at h
 all_goals first
  | exact h
  | exact absurd rfl n0
theorem OgF.world{j:Nat}{u:Value}{w':World}(h:OgF base rb xb n ov ev x xs nB rv j u w):OgF base rb xb n ov ev x xs nB rv j u w':=by
 unfold OgF at *
 split at h
 all_goals exact h
end
set_option maxRecDepth 100000 in
theorem Q1n{Q:Exit→Act→World→Prop}(base rb xb n:Nat)(ov ev:Value)(x:Qja)(xs:List Value)(W w:World)(A:Act)(hsz:A.tmps.size=33)(hnv:W.ownsRow base 39 4 ev n xs)(j9:n≤1000)(gi:base≤W.heap.size)(mQ:ev.ownBlock≠some rb)(Gi:ev.ownBlock≠some xb)
 (a0:A.tmps.getD 0 undef = .pointer (some ⟨rb,0,none⟩)) (a3:A.tmps.getD 3 undef = .pointer (some ⟨xb,0,none⟩)) (hC0:OgC base rb xb n ov ev x xs W w) (hE0:Qaa (fun _=>False) W w)
 (hQ:∀c w' (nB:Nat) (rv:Value),Qrb Qpe A c→(∃w3,w'=w3.setCell ⟨rb,1,none⟩ rv∧w3.ownsRow base 39 4 rv (n+1) (xs++[.int .i64 x.kind,.string x.path,.string x.name,.string x.value])∧Qaa (fun b=>ev.ownBlock=some b) W w3∧Holds w3 rb #[ov,ev] 120)→Q .normal c w') :
 wpAny Tryz.prog .any Qpe Q Qpe.size (Array.replicate Qpe.size false) A w:=by
 refine QVa (fun l c wx=>∃nB rv,QAb Qpe A (OgF base rb xb n ov ev x xs nB rv) (fun _=>True) l c wx∧(l.getD 10 false=false→OgC base rb xb n ov ev x xs W wx)∧OgE base rb xb n ov ev x xs nB rv W wx l) ogR ?hend ?Hk _ _ _ _ (by simp) (by simp) ⟨0,.slice none 0 0,QAb.start trivial,fun _=>hC0,by unfold OgE;rw[if_pos (QXk _ _)];exact hE0⟩
 case hend=>
  rintro l c wx ⟨nB,rv,hI,hC,hE⟩ hl
  have hh:∀k,k<11→l.getD k false=true:=fun k hk=>hl k (by rw[Qwu];exact hk)
  have lL:∃w3,wx=w3.setCell ⟨rb,1,none⟩ rv∧w3.ownsRow base 39 4 rv (n+1) (xs++[.int .i64 x.kind,.string x.path,.string x.name,.string x.value])∧Qaa (fun b=>ev.ownBlock=some b) W w3∧Holds w3 rb #[ov,ev] 120:=by
   unfold OgE at hE
   rw[hh 6 (by decide),if_neg (by simp)]at hE
   rw[hh 7 (by decide),if_neg (by simp)]at hE
   rw[hh 10 (by decide),if_neg (by simp)]at hE
   exact hE
  exact hQ c wx nB rv hI.1.1 lL
 intro l c wx mw i' op ho hl Ha K' hK'
 obtain⟨nB,rv,hI,hC,hE⟩:=mw
 have mg:l.size=11:=by rw[hI.1.2.2.1.1,Qwu]
 have hi':i'<11:=by rw[←Qwu];exact(Array.getElem?_eq_some_iff.1 ho).1
 have Hf:=ho
 simp only[Qpe,QXa,Tryz.f87,Option.getD_some,reduceIte,Nat.reduceEqDiff]at ho
 have s0:=(hI.slot 0 (by kernel_rfl)).trans a0
 have s3:=(hI.slot 3 (by kernel_rfl)).trans a3
 have fs:=And.intro True.intro True.intro
 simp only[Array.getD_eq_getD_getElem?]at s0 s3
 have GV:i'=0∨i'=1∨i'=2∨i'=3∨i'=4∨i'=5∨i'=6∨i'=7∨i'=8∨i'=9∨i'=10:=by omega
 clear hi'
 rcases GV with rfl|rfl|rfl|rfl|rfl|rfl|rfl|rfl|rfl|rfl|rfl
 all_goals cases ho
 ·go_simp
  exact hK' _ _ ⟨nB,rv,hI.step QIq 0 23 rfl (by rw[hsz];decide) _ _ Hf Ha trivial (fun _ _ h=>h) rfl,(fun h=>hC (Qia h)),hE.other (by decide) (by decide) (by decide)⟩
 ·go_simp
  exact hK' _ _ ⟨nB,rv,hI.step QIq 1 24 rfl (by rw[hsz];decide) _ _ Hf Ha trivial (fun _ _ h=>h) rfl,(fun h=>hC (Qia h)),hE.other (by decide) (by decide) (by decide)⟩
 ·have e1:c.tmps.getD 24 undef = .pointer (some ⟨rb,0,none⟩):=hI.fact 1 24 rfl (hI.1.2.2.1.2.yes_far 11 Hf Ha (by decide) (by kernel_rfl))
  have f1:=e1
  simp only[Array.getD_eq_getD_getElem?]at e1
  go_simp
  exact hK' _ _ ⟨nB,rv,hI.step QIq 2 25 rfl (by rw[hsz];decide) _ _ Hf Ha trivial (fun _ _ h=>h) rfl,(fun h=>hC (Qia h)),hE.other (by decide) (by decide) (by decide)⟩
 ·have e2:c.tmps.getD 25 undef = .pointer (some ⟨rb,0,none⟩):=hI.fact 2 25 rfl (hI.1.2.2.1.2.yes_far 11 Hf Ha (by decide) (by kernel_rfl))
  have f2:=e2
  simp only[Array.getD_eq_getD_getElem?]at e2
  go_simp
  exact hK' _ _ ⟨nB,rv,hI.step QIq 3 26 rfl (by rw[hsz];decide) _ _ Hf Ha trivial (fun _ _ h=>h) rfl,(fun h=>hC (Qia h)),hE.other (by decide) (by decide) (by decide)⟩
 ·have e3:c.tmps.getD 26 undef = .pointer (some ⟨rb,1,none⟩):=hI.fact 3 26 rfl (hI.1.2.2.1.2.yes_far 11 Hf Ha (by decide) (by kernel_rfl))
  have f3:=e3
  simp only[Array.getD_eq_getD_getElem?]at e3
  have hc:=hC (hI.1.2.2.1.2.no_far 11 hl (by kernel_rfl:QZd Qpe 11 10 4=true))
  have x0:=hc.1.cell 1
  have xl:=hc.1.lt
  go_simp
  exact hK' _ _ ⟨nB,rv,hI.step QIq 4 27 rfl (by rw[hsz];decide) _ _ Hf Ha trivial (fun _ _ h=>h) rfl,(fun h=>hC (Qia h)),hE.other (by decide) (by decide) (by decide)⟩
 ·have hc:=hC (hI.1.2.2.1.2.no_far 11 hl (by kernel_rfl:QZd Qpe 11 10 5=true))
  have x0:=hc.2.cell 0
  have x1:=hc.2.cell 1
  have x2:=hc.2.cell 2
  have x3:=hc.2.cell 3
  have xl:=hc.2.lt
  go_simp
  exact hK' _ _ ⟨nB,rv,hI.step QIq 5 28 rfl (by rw[hsz];decide) _ _ Hf Ha trivial (fun _ _ h=>h) rfl,(fun h=>hC (Qia h)),hE.other (by decide) (by decide) (by decide)⟩
 ·have e5:c.tmps.getD 28 undef = .agg #[.int .i64 x.kind,.string x.path,.string x.name,.string x.value]:=hI.fact 5 28 rfl (hI.1.2.2.1.2.yes_far 11 Hf Ha (by decide) (by kernel_rfl))
  have f5:=e5
  simp only[Array.getD_eq_getD_getElem?]at e5
  have hc:=hC (hI.1.2.2.1.2.no_far 11 hl (by kernel_rfl:QZd Qpe 11 10 6=true))
  have hp:=hE.at0 hl
  have un:=hI.1.2.2.1.2.no_far 11 hl (by kernel_rfl:QZd Qpe 11 7 6=true)
  have mE:Qaa (fun _=>False) W (wx.alloc (.cells #[.int .i64 x.kind,.string x.path,.string x.name,.string x.value] 39))∧Holds (wx.alloc (.cells #[.int .i64 x.kind,.string x.path,.string x.name,.string x.value] 39)) wx.heap.size #[.int .i64 x.kind,.string x.path,.string x.name,.string x.value] 39∧W.heap.size≤wx.heap.size:=⟨hp.alloc _,Holds.new _ _ _,hp.size⟩
  have gB:OgC base rb xb n ov ev x xs W (wx.alloc (.cells #[.int .i64 x.kind,.string x.path,.string x.name,.string x.value] 39)):=⟨hc.1.alloc _,hc.2.alloc _⟩
  go_simp
  have hJ:QAb Qpe A (OgF base rb xb n ov ev x xs (wx.heap.size) rv) (fun _=>True) l c wx:=⟨hI.1.other (fun j hj u hF=>OgF.ghost0 hF (Qbb hj hl)),hI.2⟩
  exact hK' _ _ ⟨wx.heap.size,_,hJ.step QIq 6 29 rfl (by rw[hsz];decide) _ _ Hf Ha trivial (fun _ _ h=>OgF.world h) rfl,fun _=>gB,OgE.to0 (by rw[mg];decide) un mE⟩
 ·have e4:c.tmps.getD 27 undef=ev:=hI.fact 4 27 rfl (hI.1.2.2.1.2.yes_far 11 Hf Ha (by decide) (by kernel_rfl))
  have f4:=e4
  simp only[Array.getD_eq_getD_getElem?]at e4
  have e6:c.tmps.getD 29 undef = .slice (some ⟨nB,0,none⟩) 1 1:=hI.fact 6 29 rfl (hI.1.2.2.1.2.yes_far 11 Hf Ha (by decide) (by kernel_rfl))
  have f6:=e6
  simp only[Array.getD_eq_getD_getElem?]at e6
  have hc:=hC (hI.1.2.2.1.2.no_far 11 hl (by kernel_rfl:QZd Qpe 11 10 7=true))
  have y0:l.getD 6 false=true:=hI.1.2.2.1.2.yes_far 11 Hf Ha (by decide) (by kernel_rfl)
  have hp:=hE.at1 y0 hl
  have un:=hI.1.2.2.1.2.no_far 11 hl (by kernel_rfl:QZd Qpe 11 10 7=true)
  obtain⟨ME,tL,yY⟩:=hp
  obtain⟨i1,hi,H4,Hp,gj⟩:=info_parts Quj
  refine QVe wx rfl (.tmp 27) (.tmp 29) 29 29 rfl base 39 i1 _ 4 56 Tryz.underlying29 hi H4 Hp gj rfl ev n xs (by exact f4) (Qca hnv ME (fun _ _ e=>e)) _ (by exact f6) 1 [.int .i64 x.kind,.string x.path,.string x.name,.string x.value] (Qhr tL) (by unfold maxLen;omega) (by omega) (Nat.le_trans gi ME.size) ?_
  intro v3 w2 Hj Hd Gp
  have kg:Qaa (fun b=>ev.ownBlock=some b) wx w2:=Qaa.of_grown Hd (fun i e=>e)
  have mE:w2.ownsRow base 39 4 v3 (n+1) (xs++[.int .i64 x.kind,.string x.path,.string x.name,.string x.value])∧Qaa (fun b=>ev.ownBlock=some b) W w2:=⟨Hj,(ME.mono (S:=fun b=>ev.ownBlock=some b) (fun _ _ e=>e.elim)).trans kg (fun _ _ e=>e)⟩
  have gB:OgC base rb xb n ov ev x xs W w2:=⟨hc.1.keeps kg mQ,hc.2.keeps kg Gi⟩
  have hJ:QAb Qpe A (OgF base rb xb n ov ev x xs nB (v3)) (fun _=>True) l c wx:=⟨hI.1.other (fun j hj u hF=>OgF.ghost1 hF (Qbb hj hl)),hI.2⟩
  exact hK' _ _ ⟨_,v3,hJ.step QIq 7 30 rfl (by rw[hsz];decide) _ _ Hf Ha trivial (fun _ _ h=>OgF.world h) rfl,fun _=>gB,OgE.to1 y0 (by rw[mg];decide) un mE⟩
 ·have e0:c.tmps.getD 23 undef = .pointer (some ⟨rb,0,none⟩):=hI.fact 0 23 rfl (hI.1.2.2.1.2.yes_far 11 Hf Ha (by decide) (by kernel_rfl))
  have f0:=e0
  simp only[Array.getD_eq_getD_getElem?]at e0
  go_simp
  exact hK' _ _ ⟨nB,rv,hI.step QIq 8 31 rfl (by rw[hsz];decide) _ _ Hf Ha trivial (fun _ _ h=>h) rfl,(fun h=>hC (Qia h)),hE.other (by decide) (by decide) (by decide)⟩
 ·have e8:c.tmps.getD 31 undef = .pointer (some ⟨rb,0,none⟩):=hI.fact 8 31 rfl (hI.1.2.2.1.2.yes_far 11 Hf Ha (by decide) (by kernel_rfl))
  have f8:=e8
  simp only[Array.getD_eq_getD_getElem?]at e8
  go_simp
  exact hK' _ _ ⟨nB,rv,hI.step QIq 9 32 rfl (by rw[hsz];decide) _ _ Hf Ha trivial (fun _ _ h=>h) rfl,(fun h=>hC (Qia h)),hE.other (by decide) (by decide) (by decide)⟩
 ·have e7:c.tmps.getD 30 undef=rv:=hI.fact 7 30 rfl (hI.1.2.2.1.2.yes_far 11 Hf Ha (by decide) (by kernel_rfl))
  have f7:=e7
  simp only[Array.getD_eq_getD_getElem?]at e7
  have e9:c.tmps.getD 32 undef = .pointer (some ⟨rb,1,none⟩):=hI.fact 9 32 rfl (hI.1.2.2.1.2.yes_far 11 Hf Ha (by decide) (by kernel_rfl))
  have f9:=e9
  simp only[Array.getD_eq_getD_getElem?]at e9
  have hc:=hC (hI.1.2.2.1.2.no_far 11 hl (by kernel_rfl:QZd Qpe 11 10 10=true))
  have y0:l.getD 6 false=true:=hI.1.2.2.1.2.yes_far 11 Hf Ha (by decide) (by kernel_rfl)
  have y1:l.getD 7 false=true:=hI.1.2.2.1.2.yes_far 11 Hf Ha (by decide) (by kernel_rfl)
  have hp:=hE.at2 y0 y1 hl
  obtain⟨a2,c2,rfl⟩:=Qea hp.1
  have x0:=hc.1.cell 1
  have x1:=hc.1.free 1
  have x2:=hc.1.lt
  go_simp
  have mE:=(⟨_,rfl,hp.1,hp.2,hc.1⟩:∃w3,wx.setCell ⟨rb,1,none⟩ (.slice a2 (n+1) c2)=w3.setCell ⟨rb,1,none⟩ (.slice a2 (n+1) c2)∧w3.ownsRow base 39 4 (.slice a2 (n+1) c2) (n+1) (xs++[.int .i64 x.kind,.string x.path,.string x.name,.string x.value])∧Qaa (fun b=>ev.ownBlock=some b) W w3∧Holds w3 rb #[ov,ev] 120)
  exact hK' _ _ ⟨_,_,hI.stepN 10 rfl _ Hf Ha trivial (fun _ _ h=>OgF.world h) trivial,fun h=>absurd h (by rw[Q9b (by rw[mg];decide)];simp),OgE.to2 y0 y1 (by rw[mg];decide) mE⟩
set_option maxRecDepth 100000 in
theorem Qem(rb base:Nat)(ov ev:Value)(es:List Qja)(x:Qja)(w:World)(hR:Holds w rb #[ov,ev] 120)(he:w.ownsRow base 39 4 ev es.length (Qqa es))(Gh:es.any (Qgb x)=false)(j9:∀y∈es,x.kind≠y.kind)(hl:es.length≤30)(hb:base≤w.heap.size) :
 Calls Tryz.prog 87 #[.pointer (some ⟨rb,0,none⟩),.agg #[.int .i64 x.kind,.string x.path,.string x.name,.string x.value]] w fun e w'=>∃ev',e = .returned (.int .i64 0)∧Holds w' rb #[ov,ev'] 120∧w'.ownsRow base 39 4 ev' (es.length+1) (Qqa (es++[x]))∧Qaa (fun i=>i=rb∨ev.ownBlock=some i) w w':=by
 obtain⟨ea,ec,rfl⟩:=Qea he
 have He:Below w.heap.size w (w.alloc (.cells #[.int .i64 x.kind,.string x.path,.string x.name,.string x.value] 39)):=(Below.refl _ _).alloc (Nat.le_refl _) _
 have aK:=Holds.new w #[.int .i64 x.kind,.string x.path,.string x.name,.string x.value] 39
 have jq:=hR.lt
 have lU:=hR.keeps (Qaa.of_fresh He (fun _=>False)) (fun e=>e)
 have mQ:=QFa he hR (by decide)
 have JM:=hid (Qfd 126 Qek (Qgb x) w.heap.size (.slice ea es.length ec) es (w.alloc (.cells #[.int .i64 x.kind,.string x.path,.string x.name,.string x.value] 39)) (fun y _ wx kj=>Q2s x y w.heap.size wx (aK.keeps (Qaa.of_fresh kj (fun _=>False)) (fun e=>e))) ((Qhc he).new He) (by omega))
 rw[Gh]at JM
 have r1:=lU.cell 1
 have rl:=lU.lt
 have fP:=hid aK
 have Cq:=hid lU
 have G5:=hid He
 have HE:=hid he
 have Cj:=hid mQ
 have wZ:¬((es.length:Int)=40):=by omega
 have hI40b:((es.length:Int) == 40)=false:=by simpa using wZ
 clear aK lU He Gh he hR mQ
 go_enter Tryz.func87,Tryz.ntmps87
 go_wp2_with fail
 refine(by exact JM.out:Calls _ _ _ _ _).mono ?_
 rintro e w1 ⟨rfl,Hb⟩
 have MN:=hid (fP.out.keeps (Qaa.of_fresh Hb (fun _=>False)) (fun e=>e))
 have kr:=hid (Cq.out.keeps (Qaa.of_fresh Hb (fun _=>False)) (fun e=>e))
 have HJ:=hid (G5.out.trans (Hb.mono G5.out.size))
 clear Hb r1 rl
 go_upto_region 3 with fail
 refine wp_region_any (by kernel_rfl) ?_
 refine Q5a (ops':=QAi) (by kernel_rfl) ?_
 refine Q0n rb w.heap.size ov (.slice ea es.length ec) x es w1 _ _ rfl j9 (by omega) rfl rfl ⟨kr.out,MN.out,(Qhc HE.out).new HJ.out⟩ ((Below.refl _ _).drew) ?_
 intro c w2 Ga jB Hc
 obtain⟨y11,y12,y13,y14,y15,y16,rfl⟩:=Ga.ex [11,12,13,14,15,16] (by kernel_rfl)
 simp only[List.setIfInBounds_toArray,List.set_cons_zero,List.set_cons_succ]at jB ⊢
 have wE:y16 = .bool false:=jB
 subst wE
 have oP:=hid (MN.out.keeps (Qaa.of_fresh Hc (fun _=>False)) (fun e=>e))
 have Mt:=hid (kr.out.keeps (Qaa.of_fresh Hc (fun _=>False)) (fun e=>e))
 have GI:=hid (HJ.out.trans (Hc.mono HJ.out.size))
 have r1:=Mt.out.cell 1
 have rl:=Mt.out.lt
 clear Hc Ga jB
 go_upto_region 7 with fail
 refine wp_region_any (by kernel_rfl) ?_
 refine Q5a (ops':=Qpe) (by kernel_rfl) ?_
 refine Q1n base rb w.heap.size es.length ov (.slice ea es.length ec) x (Qqa es) w2 _ _ rfl (Qhb HE.out GI.out) (by omega) (by have:=GI.out.size;omega) Cj.out (fun e=>by have:=(HE.out.lt _ e).2;omega) rfl rfl ⟨Mt.out.drew,oP.out.drew⟩ ((Qaa.refl _ w2).drew) ?_
 intro c w3 nB rv Ga hq
 obtain⟨w4,rfl,Hj,gA,dW⟩:=hq
 obtain⟨y23,y24,y25,y26,y27,y28,y29,y30,y31,y32,rfl⟩:=Ga.ex [23,24,25,26,27,28,29,30,31,32] (by kernel_rfl)
 simp only[List.setIfInBounds_toArray,List.set_cons_zero,List.set_cons_succ]
 have B0:=hid (dW.set 1 rv)
 have vY:=hid (Qca Hj ((Qaa.refl (· = rb) w4).setCell (p:=⟨rb,1,none⟩) (.inr rfl) rv) (fun g hg e=>QFa Hj dW (by decide) (by rw[hg,e])))
 have M7:=hid (((Qaa.of_fresh GI.out (fun i=>i=rb∨(Value.slice ea es.length ec).ownBlock=some i)).trans gA (fun _ _ e=>.inr e)).setCell (p:=⟨rb,1,none⟩) (.inr (.inl rfl)) rv)
 clear Hj gA dW Ga r1 rl
 go_wp2_with fail
 go_ret
 exact⟨rv,rfl,B0.out,by rw[Qge];exact vY.out,M7.out⟩
noncomputable def Q1h:Array Oper:=(QXa (Tryz.f172.body.getD .skip) 4).getD #[]
theorem oiR:Qjc .any Q1h=true:=by kernel_rfl
theorem QIk:Qbc Q1h=true:=by kernel_rfl
theorem Qxu:Q1h.size=17:=by kernel_rfl
theorem QGl:∀args w,(callFunc 53 args).run Tryz.prog w = .ok (.enter 53 args) w:=enters_of Tryz.func53 (by kernel_rfl) rfl
def OiF(g o kk q cap n:Nat)(y z:Qja)(j:Nat):Value→World→Prop:=match j with
 | 0=>fun u _=>u = .int .i64 (q:Int)
 | 1=>fun u _=>u = .int .i64 0
 | 2=>fun u _=>u = .bool true
 | 3=>fun u _=>u = .bool true
 | 4=>fun u _=>u = .func (.func 53) #[] #[]
 | 5=>fun u _=>u = .slice (some ⟨g,o,none⟩) n cap
 | 6=>fun u _=>u = .int .i64 (q:Int)
 | 7=>fun u _=>u = .pointer (some ⟨g,o+q*4,none⟩)
 | 8=>fun u _=>u = .agg #[.int .i64 y.kind,.string y.path,.string y.name,.string y.value]
 | 9=>fun u _=>u = .slice (some ⟨g,o,none⟩) n cap
 | 10=>fun u _=>u = .int .i64 (q:Int)
 | 11=>fun u _=>u = .int .i64 (kk:Int)
 | 12=>fun u _=>u = .pointer (some ⟨g,o+kk*4,none⟩)
 | 13=>fun u _=>u = .agg #[.int .i64 z.kind,.string z.path,.string z.name,.string z.value]
 | 14=>fun u _=>u = .int .i64 (QGh y z)
 | 15=>fun u _=>u = .bool false
 | 16=>fun u _=>u = .bool false
 | _=>fun _ _=>True
def OiC(g o kk q _ _:Nat)(y z:Qja)(w:World):Prop:=QRf w g (o+kk*4) z∧QRf w g (o+q*4) y
section
variable{g o kk q cap n:Nat}{y z:Qja}{w w':World}
theorem OiF.stable{j:Nat}{u:Value}(h:OiF g o kk q cap n y z j u w)(k:Below w.heap.size w w'):OiF g o kk q cap n y z j u w':=by
 unfold OiF at *
 split at h
 all_goals first
  | exact h
  | (obtain⟨nB,e,hh⟩:=h;exact⟨nB,e,hh.keeps (Qaa.of_fresh k (fun _=>False)) (fun e=>e)⟩)
end
set_option maxRecDepth 100000 in
theorem Q2n{Q:Exit→Act→World→Prop}(g o kk q cap n:Nat)(y z:Qja)(W w:World)(A:Act)(hsz:A.tmps.size=53)(hq:Hid (q=kk+1))(hqn:q<n)(tu:n≤1000)(eJ:¬QGh y z<0)
 (a0:A.tmps.getD 0 undef = .slice (some ⟨g,o,none⟩) n cap) (a1:A.tmps.getD 1 undef = .int .i64 0) (a3:A.tmps.getD 3 undef = .func (.func 53) #[] #[]) (a9:A.tmps.getD 9 undef = .int .i64 (q:Int)) (hC0:OiC g o kk q cap n y z W) (hE0:Below W.heap.size W w)
 (hQ:∀c w',Qrb Q1h A c→c.tmps.getD 34 undef = .bool false→Below W.heap.size W w'→Q .normal c w') :
 wpAny Tryz.prog .any Q1h Q Q1h.size (Array.replicate Q1h.size false) A w:=by
 refine QVa (fun l c wx=>QAb Q1h A (OiF g o kk q cap n y z) (fun _=>True) l c wx∧Below W.heap.size W wx) oiR ?hend ?Hk _ _ _ _ (by simp) (by simp) ⟨QAb.start trivial,hE0⟩
 case hend=>
  rintro l c wx ⟨hI,hS⟩ hl
  have hh:∀k,k<17→l.getD k false=true:=fun k hk=>hl k (by rw[Qxu];exact hk)
  exact hQ c wx hI.1.1 (hI.fact 16 34 rfl (hh 16 (by decide))) hS
 intro l c wx mw i' op ho hl Ha K' hK'
 obtain⟨hI,hS⟩:=mw
 have mg:l.size=17:=by rw[hI.1.2.2.1.1,Qxu]
 have hi':i'<17:=by rw[←Qxu];exact(Array.getElem?_eq_some_iff.1 ho).1
 have Hf:=ho
 simp only[Q1h,QXa,Tryz.f172,Option.getD_some,reduceIte,Nat.reduceEqDiff]at ho
 have s0:=(hI.slot 0 (by kernel_rfl)).trans a0
 have s1:=(hI.slot 1 (by kernel_rfl)).trans a1
 have s3:=(hI.slot 3 (by kernel_rfl)).trans a3
 have s9:=(hI.slot 9 (by kernel_rfl)).trans a9
 have fs:=And.intro True.intro True.intro
 simp only[Array.getD_eq_getD_getElem?]at s0 s1 s3 s9
 have J7:Q1h[3]?.bind (fun x=>x.dst)=some 21:=by kernel_rfl
 have GV:i'=0∨i'=1∨i'=2∨i'=3∨i'=4∨i'=5∨i'=6∨i'=7∨i'=8∨i'=9∨i'=10∨i'=11∨i'=12∨i'=13∨i'=14∨i'=15∨i'=16:=by omega
 clear hi'
 rcases GV with rfl|rfl|rfl|rfl|rfl|rfl|rfl|rfl|rfl|rfl|rfl|rfl|rfl|rfl|rfl|rfl|rfl
 all_goals cases ho
 ·go_simp
  exact hK' _ _ ⟨hI.step QIk 0 18 rfl (by rw[hsz];decide) _ _ Hf Ha trivial (fun _ _ h=>h) rfl,hS⟩
 ·go_simp
  exact hK' _ _ ⟨hI.step QIk 1 19 rfl (by rw[hsz];decide) _ _ Hf Ha trivial (fun _ _ h=>h) rfl,hS⟩
 ·have e0:c.tmps.getD 18 undef = .int .i64 (q:Int):=hI.fact 0 18 rfl (hI.1.2.2.1.2.yes_far 17 Hf Ha (by decide) (by kernel_rfl))
  have f0:=e0
  simp only[Array.getD_eq_getD_getElem?]at e0
  have e1:c.tmps.getD 19 undef = .int .i64 0:=hI.fact 1 19 rfl (hI.1.2.2.1.2.yes_far 17 Hf Ha (by decide) (by kernel_rfl))
  have f1:=e1
  simp only[Array.getD_eq_getD_getElem?]at e1
  have hc:OiC g o kk q cap n y z wx:=⟨hC0.1.keep hS (World.block_lt_of_cell? W _ hC0.1.1),hC0.2.keep hS (World.block_lt_of_cell? W _ hC0.2.1)⟩
  have pN:(0:Int)<(q:Int):=by have:=hq.out;omega
  have tV:0<q:=by have:=hq.out;omega
  have kT:decide ((0:Int)<(q:Int))=true:=decide_eq_true pN
  have Dg:decide (0<q)=true:=decide_eq_true tV
  go_simp
  exact hK' _ _ ⟨hI.step QIk 2 20 rfl (by rw[hsz];decide) _ _ Hf Ha trivial (fun _ _ h=>h) rfl,hS⟩
 ·have e2:c.tmps.getD 20 undef = .bool true:=hI.fact 2 20 rfl (hI.1.2.2.1.2.yes_far 17 Hf Ha (by decide) (by kernel_rfl))
  have f2:=e2
  simp only[Array.getD_eq_getD_getElem?]at e2
  go_simp
  exact hK' _ _ ⟨hI.step QIk 3 21 rfl (by rw[hsz];decide) _ _ Hf Ha trivial (fun _ _ h=>h) rfl,hS⟩
 ·have e3:c.tmps.getD 21 undef = .bool true:=hI.fact 3 21 rfl (hI.1.2.2.1.2.yes_far 17 Hf Ha (by decide) (by kernel_rfl))
  have f3:=e3
  simp only[Array.getD_eq_getD_getElem?]at e3
  have g3:c.tmps[21]? = some (.bool true):=Qoc f3
  go_simp
  try rw[if_pos (by rw[J7];simp only[Option.bind_some,g3])]
  exact hK' _ _ ⟨hI.step QIk 4 22 rfl (by rw[hsz];decide) _ _ Hf Ha trivial (fun _ _ h=>h) rfl,hS⟩
 ·have e3:c.tmps.getD 21 undef = .bool true:=hI.fact 3 21 rfl (hI.1.2.2.1.2.yes_far 17 Hf Ha (by decide) (by kernel_rfl))
  have f3:=e3
  simp only[Array.getD_eq_getD_getElem?]at e3
  have g3:c.tmps[21]? = some (.bool true):=Qoc f3
  go_simp
  try rw[if_pos (by rw[J7];simp only[Option.bind_some,g3])]
  exact hK' _ _ ⟨hI.step QIk 5 23 rfl (by rw[hsz];decide) _ _ Hf Ha trivial (fun _ _ h=>h) rfl,hS⟩
 ·have e3:c.tmps.getD 21 undef = .bool true:=hI.fact 3 21 rfl (hI.1.2.2.1.2.yes_far 17 Hf Ha (by decide) (by kernel_rfl))
  have f3:=e3
  simp only[Array.getD_eq_getD_getElem?]at e3
  have g3:c.tmps[21]? = some (.bool true):=Qoc f3
  go_simp
  try rw[if_pos (by rw[J7];simp only[Option.bind_some,g3])]
  exact hK' _ _ ⟨hI.step QIk 6 24 rfl (by rw[hsz];decide) _ _ Hf Ha trivial (fun _ _ h=>h) rfl,hS⟩
 ·have e3:c.tmps.getD 21 undef = .bool true:=hI.fact 3 21 rfl (hI.1.2.2.1.2.yes_far 17 Hf Ha (by decide) (by kernel_rfl))
  have f3:=e3
  simp only[Array.getD_eq_getD_getElem?]at e3
  have e5:c.tmps.getD 23 undef = .slice (some ⟨g,o,none⟩) n cap:=hI.fact 5 23 rfl (hI.1.2.2.1.2.yes_far 17 Hf Ha (by decide) (by kernel_rfl))
  have f5:=e5
  simp only[Array.getD_eq_getD_getElem?]at e5
  have e6:c.tmps.getD 24 undef = .int .i64 (q:Int):=hI.fact 6 24 rfl (hI.1.2.2.1.2.yes_far 17 Hf Ha (by decide) (by kernel_rfl))
  have f6:=e6
  simp only[Array.getD_eq_getD_getElem?]at e6
  have hc:OiC g o kk q cap n y z wx:=⟨hC0.1.keep hS (World.block_lt_of_cell? W _ hC0.1.1),hC0.2.keep hS (World.block_lt_of_cell? W _ hC0.2.1)⟩
  have hb:(q:Int)<(n:Int):=by omega
  have g3:c.tmps[21]? = some (.bool true):=Qoc f3
  go_simp
  try rw[if_pos (by rw[J7];simp only[Option.bind_some,g3])]
  exact hK' _ _ ⟨hI.step QIk 7 25 rfl (by rw[hsz];decide) _ _ Hf Ha trivial (fun _ _ h=>h) rfl,hS⟩
 ·have e3:c.tmps.getD 21 undef = .bool true:=hI.fact 3 21 rfl (hI.1.2.2.1.2.yes_far 17 Hf Ha (by decide) (by kernel_rfl))
  have f3:=e3
  simp only[Array.getD_eq_getD_getElem?]at e3
  have e7:c.tmps.getD 25 undef = .pointer (some ⟨g,o+q*4,none⟩):=hI.fact 7 25 rfl (hI.1.2.2.1.2.yes_far 17 Hf Ha (by decide) (by kernel_rfl))
  have f7:=e7
  simp only[Array.getD_eq_getD_getElem?]at e7
  have hc:OiC g o kk q cap n y z wx:=⟨hC0.1.keep hS (World.block_lt_of_cell? W _ hC0.1.1),hC0.2.keep hS (World.block_lt_of_cell? W _ hC0.2.1)⟩
  obtain⟨x0,x1,x2,x3⟩:=hc.2
  have xl:=World.block_lt_of_cell? wx _ x0
  have g3:c.tmps[21]? = some (.bool true):=Qoc f3
  go_simp
  try rw[if_pos (by rw[J7];simp only[Option.bind_some,g3])]
  exact hK' _ _ ⟨hI.step QIk 8 26 rfl (by rw[hsz];decide) _ _ Hf Ha trivial (fun _ _ h=>h) rfl,hS⟩
 ·have e3:c.tmps.getD 21 undef = .bool true:=hI.fact 3 21 rfl (hI.1.2.2.1.2.yes_far 17 Hf Ha (by decide) (by kernel_rfl))
  have f3:=e3
  simp only[Array.getD_eq_getD_getElem?]at e3
  have g3:c.tmps[21]? = some (.bool true):=Qoc f3
  go_simp
  try rw[if_pos (by rw[J7];simp only[Option.bind_some,g3])]
  exact hK' _ _ ⟨hI.step QIk 9 27 rfl (by rw[hsz];decide) _ _ Hf Ha trivial (fun _ _ h=>h) rfl,hS⟩
 ·have e3:c.tmps.getD 21 undef = .bool true:=hI.fact 3 21 rfl (hI.1.2.2.1.2.yes_far 17 Hf Ha (by decide) (by kernel_rfl))
  have f3:=e3
  simp only[Array.getD_eq_getD_getElem?]at e3
  have g3:c.tmps[21]? = some (.bool true):=Qoc f3
  go_simp
  try rw[if_pos (by rw[J7];simp only[Option.bind_some,g3])]
  exact hK' _ _ ⟨hI.step QIk 10 28 rfl (by rw[hsz];decide) _ _ Hf Ha trivial (fun _ _ h=>h) rfl,hS⟩
 ·have e3:c.tmps.getD 21 undef = .bool true:=hI.fact 3 21 rfl (hI.1.2.2.1.2.yes_far 17 Hf Ha (by decide) (by kernel_rfl))
  have f3:=e3
  simp only[Array.getD_eq_getD_getElem?]at e3
  have e10:c.tmps.getD 28 undef = .int .i64 (q:Int):=hI.fact 10 28 rfl (hI.1.2.2.1.2.yes_far 17 Hf Ha (by decide) (by kernel_rfl))
  have f10:=e10
  simp only[Array.getD_eq_getD_getElem?]at e10
  have hc:OiC g o kk q cap n y z wx:=⟨hC0.1.keep hS (World.block_lt_of_cell? W _ hC0.1.1),hC0.2.keep hS (World.block_lt_of_cell? W _ hC0.2.1)⟩
  have hw:IntKind.i64.wrap ((q:Int)-1)=(kk:Int):=by rw[IntWalk.i64_in _ (by have:=hq.out;omega)];have:=hq.out;omega
  have g3:c.tmps[21]? = some (.bool true):=Qoc f3
  go_simp
  try rw[if_pos (by rw[J7];simp only[Option.bind_some,g3])]
  exact hK' _ _ ⟨hI.step QIk 11 29 rfl (by rw[hsz];decide) _ _ Hf Ha trivial (fun _ _ h=>h) rfl,hS⟩
 ·have e3:c.tmps.getD 21 undef = .bool true:=hI.fact 3 21 rfl (hI.1.2.2.1.2.yes_far 17 Hf Ha (by decide) (by kernel_rfl))
  have f3:=e3
  simp only[Array.getD_eq_getD_getElem?]at e3
  have e9:c.tmps.getD 27 undef = .slice (some ⟨g,o,none⟩) n cap:=hI.fact 9 27 rfl (hI.1.2.2.1.2.yes_far 17 Hf Ha (by decide) (by kernel_rfl))
  have f9:=e9
  simp only[Array.getD_eq_getD_getElem?]at e9
  have e11:c.tmps.getD 29 undef = .int .i64 (kk:Int):=hI.fact 11 29 rfl (hI.1.2.2.1.2.yes_far 17 Hf Ha (by decide) (by kernel_rfl))
  have f11:=e11
  simp only[Array.getD_eq_getD_getElem?]at e11
  have hc:OiC g o kk q cap n y z wx:=⟨hC0.1.keep hS (World.block_lt_of_cell? W _ hC0.1.1),hC0.2.keep hS (World.block_lt_of_cell? W _ hC0.2.1)⟩
  have hb:(kk:Int)<(n:Int):=by have:=hq.out;omega
  have g3:c.tmps[21]? = some (.bool true):=Qoc f3
  go_simp
  try rw[if_pos (by rw[J7];simp only[Option.bind_some,g3])]
  exact hK' _ _ ⟨hI.step QIk 12 30 rfl (by rw[hsz];decide) _ _ Hf Ha trivial (fun _ _ h=>h) rfl,hS⟩
 ·have e3:c.tmps.getD 21 undef = .bool true:=hI.fact 3 21 rfl (hI.1.2.2.1.2.yes_far 17 Hf Ha (by decide) (by kernel_rfl))
  have f3:=e3
  simp only[Array.getD_eq_getD_getElem?]at e3
  have e12:c.tmps.getD 30 undef = .pointer (some ⟨g,o+kk*4,none⟩):=hI.fact 12 30 rfl (hI.1.2.2.1.2.yes_far 17 Hf Ha (by decide) (by kernel_rfl))
  have f12:=e12
  simp only[Array.getD_eq_getD_getElem?]at e12
  have hc:OiC g o kk q cap n y z wx:=⟨hC0.1.keep hS (World.block_lt_of_cell? W _ hC0.1.1),hC0.2.keep hS (World.block_lt_of_cell? W _ hC0.2.1)⟩
  obtain⟨x0,x1,x2,x3⟩:=hc.1
  have xl:=World.block_lt_of_cell? wx _ x0
  have g3:c.tmps[21]? = some (.bool true):=Qoc f3
  go_simp
  try rw[if_pos (by rw[J7];simp only[Option.bind_some,g3])]
  exact hK' _ _ ⟨hI.step QIk 13 31 rfl (by rw[hsz];decide) _ _ Hf Ha trivial (fun _ _ h=>h) rfl,hS⟩
 ·have e3:c.tmps.getD 21 undef = .bool true:=hI.fact 3 21 rfl (hI.1.2.2.1.2.yes_far 17 Hf Ha (by decide) (by kernel_rfl))
  have f3:=e3
  simp only[Array.getD_eq_getD_getElem?]at e3
  have e4:c.tmps.getD 22 undef = .func (.func 53) #[] #[]:=hI.fact 4 22 rfl (hI.1.2.2.1.2.yes_far 17 Hf Ha (by decide) (by kernel_rfl))
  have f4:=e4
  simp only[Array.getD_eq_getD_getElem?]at e4
  have e8:c.tmps.getD 26 undef = .agg #[.int .i64 y.kind,.string y.path,.string y.name,.string y.value]:=hI.fact 8 26 rfl (hI.1.2.2.1.2.yes_far 17 Hf Ha (by decide) (by kernel_rfl))
  have f8:=e8
  simp only[Array.getD_eq_getD_getElem?]at e8
  have e13:c.tmps.getD 31 undef = .agg #[.int .i64 z.kind,.string z.path,.string z.name,.string z.value]:=hI.fact 13 31 rfl (hI.1.2.2.1.2.yes_far 17 Hf Ha (by decide) (by kernel_rfl))
  have f13:=e13
  simp only[Array.getD_eq_getD_getElem?]at e13
  have hc:OiC g o kk q cap n y z wx:=⟨hC0.1.keep hS (World.block_lt_of_cell? W _ hC0.1.1),hC0.2.keep hS (World.block_lt_of_cell? W _ hC0.2.1)⟩
  have kf:=QGl
  have g3:c.tmps[21]? = some (.bool true):=Qoc f3
  go_simp
  try rw[if_pos (by rw[J7];simp only[Option.bind_some,g3])]
  refine(Qre y z wx).mono ?_
  rintro e w2 ⟨rfl,Hc⟩
  exact hK' _ _ ⟨hI.step QIk 14 32 rfl (by rw[hsz];decide) _ _ Hf Ha trivial (fun _ _ h=>OiF.stable h Hc) rfl,hS.trans (Hc.mono hS.size)⟩
 ·have e3:c.tmps.getD 21 undef = .bool true:=hI.fact 3 21 rfl (hI.1.2.2.1.2.yes_far 17 Hf Ha (by decide) (by kernel_rfl))
  have f3:=e3
  simp only[Array.getD_eq_getD_getElem?]at e3
  have e14:c.tmps.getD 32 undef = .int .i64 (QGh y z):=hI.fact 14 32 rfl (hI.1.2.2.1.2.yes_far 17 Hf Ha (by decide) (by kernel_rfl))
  have f14:=e14
  simp only[Array.getD_eq_getD_getElem?]at e14
  have hc:OiC g o kk q cap n y z wx:=⟨hC0.1.keep hS (World.block_lt_of_cell? W _ hC0.1.1),hC0.2.keep hS (World.block_lt_of_cell? W _ hC0.2.1)⟩
  have hn:=eJ
  have g3:c.tmps[21]? = some (.bool true):=Qoc f3
  go_simp
  try rw[if_pos (by rw[J7];simp only[Option.bind_some,g3])]
  exact hK' _ _ ⟨hI.step QIk 15 33 rfl (by rw[hsz];decide) _ _ Hf Ha trivial (fun _ _ h=>h) rfl,hS⟩
 ·have e3:c.tmps.getD 21 undef = .bool true:=hI.fact 3 21 rfl (hI.1.2.2.1.2.yes_far 17 Hf Ha (by decide) (by kernel_rfl))
  have f3:=e3
  simp only[Array.getD_eq_getD_getElem?]at e3
  have e15:c.tmps.getD 33 undef = .bool false:=hI.fact 15 33 rfl (hI.1.2.2.1.2.yes_far 17 Hf Ha (by decide) (by kernel_rfl))
  have f15:=e15
  simp only[Array.getD_eq_getD_getElem?]at e15
  go_simp
  exact hK' _ _ ⟨hI.step QIk 16 34 rfl (by rw[hsz];decide) _ _ Hf Ha trivial (fun _ _ h=>h) rfl,hS⟩
theorem Q9o{l:List Qja}(ha:Q2j l=true){k:Nat}(h:k+1<l.length):¬QGh l[k+1] l[k]<0:=by
 have h1:=List.pairwise_iff_getElem.1 (QJe l ha) k (k+1) (by omega) h (by omega)
 have h2:=Q7o l[k+1] l[k]
 have h3:ltE l[k+1] l[k]=false:=by
  cases e:ltE l[k+1] l[k]with
  | false=>rfl
  | true=>exact absurd ⟨rfl,rfl⟩ (QVh (QAk h1 e))
 rw[h3]at h2
 have:0≤QGh l[k+1] l[k]:=by simpa using h2
 omega
set_option maxRecDepth 100000 in
theorem Qvp(v:Value)(l:List Qja)(w:World)(hE:Qjb w v l)(ha:Q2j l=true)(hl:l.length≤12)(hp:0<l.length) :
 Calls Tryz.prog 172 #[v,.int .i64 0,.int .i64 l.length,.func (.func 53) #[] #[]] w fun e w'=>e = .returned (.tuple #[])∧Below w.heap.size w w':=by
 obtain⟨a,cap,rfl,gM,gB⟩:=hE.slice
 have HE:=hid hE
 have HA:=hid ha
 clear hE ha
 go_enter Tryz.func172,Tryz.ntmps172
 go_wp2_with fail
 go_loopg [8] (l.length) (fun f x wr=>∃k:Nat,x = .int .i64 ((k+1:Nat):Int)∧k+1≤l.length∧l.length≤k+1+f∧Hid (Below w.heap.size w wr))
 case atStart=>exact⟨0,rfl,by omega,by omega,hid (Below.refl _ _)⟩
 case round=>
  obtain⟨k,rfl,hk,hf,HB⟩:=hrel
  by_cases Hh:k+1<l.length
  ·have MX:((k+1:Nat):Int)<(l.length:Int):=by omega
   have yC:(0:Int)<((k+1:Nat):Int):=by omega
   obtain⟨g,o,e1,hg,H7⟩:=Qwc (HE.out.new HB.out) (by omega)
   subst e1
   obtain⟨d0,d1,d2,d3⟩:=H7 k (by omega)
   obtain⟨b0,b1,b2,b3⟩:=H7 (k+1) Hh
   have eJ:=Q9o HA.out Hh
   have HD:=hid (H7 k (by omega))
   have pW:=hid (H7 (k+1) Hh)
   clear H7 d0 d1 d2 d3 b0 b1 b2 b3
   generalize l[k+1]=y at *
   generalize l[k]=z at *
   obtain⟨q,hq⟩:∃q,q=k+1:=⟨_,rfl⟩
   rw[←hq]at pW MX yC ⊢
   have HQ:=hid hq
   have hw:IntKind.i64.wrap ((q:Int)-1)=(k:Int):=by rw[IntWalk.i64_in _ (by omega)];omega
   have eS:(k:Int)<(l.length:Int):=by omega
   clear hq
   obtain⟨go,rfl⟩:∃x:Nat,x=gk:=⟨_,rfl⟩
   obtain⟨wo,rfl⟩:∃x:World,x=wr:=⟨_,rfl⟩
   go_wp2_with fail
   go_loopg [9] 0 (fun _ x wr=>x = .int .i64 (q:Int)∧wo=wr)
   case atStart=>exact⟨rfl,rfl⟩
   case round=>
    obtain⟨rfl,rfl⟩:=hrel
    go_upto_region 4 with fail
    refine wp_region_any (by kernel_rfl) ?_
    refine Q5a (ops':=Q1h) (by kernel_rfl) ?_
    refine Q2n g o k q cap l.length y z wo _ _ rfl HQ (by omega) (by omega) (by omega) rfl rfl rfl rfl ⟨HD.out,pW.out⟩ ((Below.refl _ _).drew) ?_
    intro c w3 Ga MP Hi
    obtain⟨y18,y19,y20,y21,y22,y23,y24,y25,y26,y27,y28,y29,y30,y31,y32,y33,y34,rfl⟩:=Ga.ex [18,19,20,21,22,23,24,25,26,27,28,29,30,31,32,33,34] (by kernel_rfl)
    simp only[List.setIfInBounds_toArray,List.set_cons_zero,List.set_cons_succ]at MP ⊢
    have lx:y34 = .bool false:=MP
    subst lx
    have KK:=hid (HB.out.trans (Hi.mono HB.out.size))
    clear Ga MP Hi
    go_wp2_with fail
    go_roundg (go-1)
    case measure=>omega
    case rel=>exact⟨k+1,by have:=HQ.out;go_num,by have:=HQ.out;omega,by have:=HQ.out;omega,KK⟩
  ·have MX:¬((k+1:Nat):Int)<(l.length:Int):=by omega
   go_wp2_with fail
   go_end0
   exact⟨rfl,HB.out⟩
set_option maxRecDepth 100000 in
theorem Q2p(v:Value)(l:List Qja)(lim:Int)(w:World)(hE:Qjb w v l)(ha:Q2j l=true)(hl:l.length≤12)(hp:0<l.length) :
 Calls Tryz.prog 128 #[v,.int .i64 0,.int .i64 l.length,.int .i64 lim,.func (.func 53) #[] #[]] w fun e w'=>e = .returned (.tuple #[])∧Below w.heap.size w w':=by
 obtain⟨a,cap,rfl,gM,gB⟩:=hE.slice
 have HI:=hid (Qvp (.slice a l.length cap) l w hE ha hl hp)
 have nK:(l.length:Int)≤12:=by omega
 clear hE ha
 go_enter Tryz.func128,Tryz.ntmps128
 go_wp2_with fail
 go_loopg [1,2] 0 (fun _ x y wr=>x = .int .i64 0∧y = .int .i64 l.length∧w=wr)
 case atStart=>exact⟨rfl,rfl,rfl⟩
 case round=>
  obtain⟨rfl,rfl,rfl⟩:=hrel
  go_wp2_with fail
  refine(by exact HI.out:Calls _ _ _ _ _).mono ?_
  rintro e w1 ⟨rfl,Hb⟩
  go_wp2_with fail
  exact bodyPost_ret (v:=.tuple #[]) (by simp[results,Tryz.results128,go_sem]) rfl ⟨rfl,Hb⟩
set_option maxRecDepth 100000 in
theorem Qso(v:Value)(l:List Qja)(w:World)(hE:Qjb w v l)(ha:Q2j l=true)(hl:l.length≤12)(hp:0<l.length) :
 Calls Tryz.prog 88 #[v,.func (.func 53) #[] #[]] w fun e w'=>e = .returned (.tuple #[])∧Below w.heap.size w w':=by
 obtain⟨a,cap,rfl,gM,gB⟩:=hE.slice
 have HI:=hid (fun lim=>Q2p (.slice a l.length cap) l lim w hE ha hl hp)
 have HL:=hid (Tryz.bits_Len (l.length:Int) w (by omega) (by omega))
 clear hE ha
 go_enter Tryz.func88,Tryz.ntmps88
 go_wp2_with fail
 refine(by exact HL.out:Calls _ _ _ _ _).mono ?_
 rintro e w1 ⟨rfl,rfl⟩
 go_wp2_with fail
 refine(by exact HI.out _:Calls _ _ _ _ _).mono ?_
 rintro e w2 ⟨rfl,Hc⟩
 go_wp2_with fail
 go_end0
 exact⟨rfl,Hc⟩
def awE:List Qja:=[⟨1,⟨#[47,97]⟩,⟨#[]⟩,⟨#[]⟩⟩,⟨2,⟨#[47,97]⟩,⟨#[112]⟩,⟨#[0,0,0,1]⟩⟩,⟨3,⟨#[47,97]⟩,⟨#[113]⟩,⟨#[]⟩⟩]
theorem QWo{w:World}{base:Nat}{v:Value}(h:QNb w base 0 v [⟨1,⟨#[]⟩,⟨#[47]⟩,[],1,1⟩,⟨1,⟨#[]⟩,⟨#[97]⟩,[],1,5⟩,⟨3,⟨#[]⟩,⟨#[112]⟩,[⟨1,[⟨1,⟨#[]⟩⟩],⟨#[]⟩⟩],1,9⟩,⟨4,⟨#[]⟩,⟨#[113]⟩,[],1,18⟩,⟨2,⟨#[]⟩,⟨#[]⟩,[],1,39⟩,⟨2,⟨#[]⟩,⟨#[]⟩,[],1,42⟩]) :
 ∃g c,v = .slice (some ⟨g,0,none⟩) 6 c∧g<w.heap.size∧∀k,k<6→∃(kd:Int) (nm:ByteArray) (pv:Value) (d5 d6:Int),w.cell? ⟨g,k*7,none⟩=some (.int .i64 kd)∧w.cell? ⟨g,k*7+1,none⟩=some (.string ⟨#[]⟩)∧w.cell? ⟨g,k*7+2,none⟩=some (.string nm)∧w.cell? ⟨g,k*7+3,none⟩=some pv∧w.cell? ⟨g,k*7+4,none⟩=some (.int .i64 0)∧w.cell? ⟨g,k*7+5,none⟩=some (.int .i64 d5)∧w.cell? ⟨g,k*7+6,none⟩=some (.int .i64 d6)∧
  ((k=0∧kd=1∧nm=⟨#[47]⟩)∨(k=1∧kd=1∧nm=⟨#[97]⟩)∨(k=2∧kd=3∧nm=⟨#[112]⟩)∨(k=3∧kd=4∧nm=⟨#[113]⟩)∨(k=4∧kd=2∧nm=⟨#[]⟩)∨(k=5∧kd=2∧nm=⟨#[]⟩))∧
  (∃a n c,pv = .slice a n c)∧∀wx,Below w.heap.size w wx→Calls Tryz.prog 123 #[pv] wx fun e w'=>e = .returned (.tuple #[.string (if k=2 then⟨#[0,0,0,1]⟩else⟨#[]⟩),.bool true])∧Below wx.heap.size wx w':=by
 obtain⟨g,c,rfl,hg,hk⟩:=Qys h (by decide)
 refine⟨g,c,rfl,hg,fun k da=>?_⟩
 have Mm:k=0∨k=1∨k=2∨k=3∨k=4∨k=5:=by omega
 have nilv:∀pv,QSa w base pv []→(∃a n c,pv = .slice a n c)∧∀wx,Below w.heap.size w wx→Calls Tryz.prog 123 #[pv] wx fun e w'=>e = .returned (.tuple #[.string ⟨#[]⟩,.bool true])∧Below wx.heap.size wx w':=by
  intro pv hp
  obtain⟨vs,hl,hr,_⟩:=hp
  obtain⟨a,c,rfl⟩:=Qea hr
  exact⟨⟨a,_,c,rfl⟩,fun wx _=>QEq a c wx⟩
 rcases Mm with rfl|rfl|rfl|rfl|rfl|rfl
 ·obtain⟨pv,b0,b1,b2,b3,b4,b5,b6,hp⟩:=hk 0 (by decide)
  obtain⟨n1,n2⟩:=nilv pv hp
  exact⟨_,_,pv,_,_,b0,b1,b2,b3,b4,b5,b6,by simp,n1,n2⟩
 ·obtain⟨pv,b0,b1,b2,b3,b4,b5,b6,hp⟩:=hk 1 (by decide)
  obtain⟨n1,n2⟩:=nilv pv hp
  exact⟨_,_,pv,_,_,b0,b1,b2,b3,b4,b5,b6,by simp,n1,n2⟩
 ·obtain⟨pv,b0,b1,b2,b3,b4,b5,b6,hp⟩:=hk 2 (by decide)
  obtain⟨g2,c2,rfl,iw,mR⟩:=QAr hp (by decide)
  obtain⟨cv,e0,e1,e2,uX⟩:=mR 0 (by decide)
  obtain⟨g3,c3,rfl,yk,gy⟩:=Q7q uX (by decide)
  obtain⟨f0,f1⟩:=gy 0 (by decide)
  refine⟨_,_,_,_,_,b0,b1,b2,b3,b4,b5,b6,by simp,⟨_,_,_,rfl⟩,fun wx hb=>?_⟩
  have kp:=Qaa.of_fresh hb (fun _=>False)
  exact QFq g2 g3 c3 c2 wx ((kp.cell (p:=⟨g2,0,none⟩) iw (fun e=>e)).trans e0) ((kp.cell (p:=⟨g2,1,none⟩) iw (fun e=>e)).trans e1) ((kp.cell (p:=⟨g2,2,none⟩) iw (fun e=>e)).trans e2) ((kp.cell (p:=⟨g3,0,none⟩) yk (fun e=>e)).trans f0) ((kp.cell (p:=⟨g3,1,none⟩) yk (fun e=>e)).trans f1) (Nat.lt_of_lt_of_le iw hb.size) (Nat.lt_of_lt_of_le yk hb.size)
 ·obtain⟨pv,b0,b1,b2,b3,b4,b5,b6,hp⟩:=hk 3 (by decide)
  obtain⟨n1,n2⟩:=nilv pv hp
  exact⟨_,_,pv,_,_,b0,b1,b2,b3,b4,b5,b6,by simp,n1,n2⟩
 ·obtain⟨pv,b0,b1,b2,b3,b4,b5,b6,hp⟩:=hk 4 (by decide)
  obtain⟨n1,n2⟩:=nilv pv hp
  exact⟨_,_,pv,_,_,b0,b1,b2,b3,b4,b5,b6,by simp,n1,n2⟩
 ·obtain⟨pv,b0,b1,b2,b3,b4,b5,b6,hp⟩:=hk 5 (by decide)
  obtain⟨n1,n2⟩:=nilv pv hp
  exact⟨_,_,pv,_,_,b0,b1,b2,b3,b4,b5,b6,by simp,n1,n2⟩
def opK:Nat→List ByteArray
 | 1=>[⟨#[47]⟩]
 | 2=>[⟨#[47]⟩,⟨#[47,97]⟩]
 | 3=>[⟨#[47]⟩,⟨#[47,97]⟩]
 | 4=>[⟨#[47]⟩,⟨#[47,97]⟩]
 | 5=>[⟨#[47]⟩]
 | _=>[]
def esK:Nat→List Qja
 | 0=>[]
 | 1=>[]
 | 2=>awE.take 1
 | 3=>awE.take 2
 | _=>awE
structure RdK(W1 wr:World)(rb k:Nat)(ov ev:Value):Prop where
 hr:Holds wr rb #[ov,ev] 120
 ho:wr.ownsRow W1.heap.size 9 1 ov (opK k).length (QHc (opK k))
 he:wr.ownsRow W1.heap.size 39 4 ev (esK k).length (Qqa (esK k))
 hb:Below W1.heap.size W1 wr
 hrb:W1.heap.size≤rb
theorem RdK.fresh{W1 wr w':World}{rb k:Nat}{ov ev:Value}(h:RdK W1 wr rb k ov ev)(b:Below wr.heap.size wr w'):RdK W1 w' rb k ov ev:=
 ⟨h.hr.keeps (Qaa.of_fresh b (fun _=>False)) (fun e=>e),Qhb h.ho b,Qhb h.he b,h.hb.trans (b.mono h.hb.size),h.hrb⟩
theorem RdK.alloc{W1 wr:World}{rb k:Nat}{ov ev:Value}(h:RdK W1 wr rb k ov ev)(o:Obj):RdK W1 (wr.alloc o) rb k ov ev:=h.fresh ((Below.refl _ _).alloc (Nat.le_refl _) _)
set_option maxRecDepth 100000 in
theorem Q8n(w:World)(lay:Qog w) :
 Calls Tryz.prog 40 #[.string ⟨#[99,97,112,101]⟩,.string ⟨Qvl.toArray⟩] w fun e w'=>∃ev,e = .returned (.tuple #[.agg #[.string ⟨#[99,97,112,101]⟩,ev],.agg #[.int .i64 0,.int .i64 0,.int .i64 0],.int .i64 0])∧w'.ownsRow w.heap.size 39 4 ev awE.length (Qqa awE)∧Below w.heap.size w w':=by
 have HN:=hid (fun wx=>Qac ⟨#[99,97,112,101]⟩ wx (by decide))
 rw[show Q0a (⟨#[99,97,112,101]⟩:ByteArray).data.toList=true from by decide]at HN
 obtain⟨W0,GT⟩:∃x,x=(w.alloc (.cells #[.string ⟨#[]⟩,.slice none 0 0] 31)).alloc (.cells #[.int .i64 0,.int .i64 0,.int .i64 0] 79):=⟨_,rfl⟩
 have He:Below w.heap.size w W0:=by rw[GT];exact((Below.refl _ _).alloc (Nat.le_refl _) _).alloc (by simp) _
 have J0:Holds W0 w.heap.size #[.string ⟨#[]⟩,.slice none 0 0] 31:=by rw[GT];exact(Holds.new w _ _).alloc _
 have pb:Holds W0 (w.heap.size+1) #[.int .i64 0,.int .i64 0,.int .i64 0] 79:=by rw[GT];exact Holds.newAt (w:=w.alloc (.cells #[.string ⟨#[]⟩,.slice none 0 0] 31)) (B:=w.heap.size+1) (by simp) _ _
 have Gf:=Qom ⟨Qvl.toArray⟩ 0 W0 (by decide) (lay.keeps (Qaa.of_fresh He (fun _=>False)) (fun e=>e))
 unfold Qql QMk at Gf
 rw[show(⟨Qvl.toArray⟩:ByteArray).data.toList=Qvl from rfl,Qpn]at Gf
 have Mu:=hid Gf
 have G5:=hid He
 have fH:=hid J0
 have Cl:=hid pb
 have Av:=hid GT
 obtain⟨txt,um⟩:∃x,x=(⟨Qvl.toArray⟩:ByteArray):=⟨_,rfl⟩
 rw[←um]at Mu ⊢
 clear Gf He J0 pb GT lay um
 go_enter Tryz.func40,Tryz.ntmps40
 go_wp2_with fail
 refine(by exact HN.out _:Calls _ _ _ _ _).mono ?_
 rintro e w1 ⟨rfl,rfl⟩
 go_wp2_with fail
 rw[←Av.out]
 refine(by exact Mu.out:Calls _ _ _ _ _).mono ?_
 rintro e w1 ⟨v,rfl,hD,Hb⟩
 obtain⟨g,c,rfl,hg,Ha⟩:=QWo hD
 have iY:=hid Ha
 have HJ:=hid (G5.out.trans (Hb.mono G5.out.size))
 have mr:=hid (fH.out.keeps (Qaa.of_fresh Hb (fun _=>False)) (fun e=>e))
 have Ai:=hid (Cl.out.keeps (Qaa.of_fresh Hb (fun _=>False)) (fun e=>e))
 clear hD Hb Ha Mu Av
 go_wp2_with fail
 have qR:=((Holds.new (w1.alloc (.cells #[.int .i64 0,.int .i64 0,.int .i64 0] 79)) #[.slice none 0 0,.slice none 0 0] 120))
 rw[show(w1.alloc (.cells #[.int .i64 0,.int .i64 0,.int .i64 0] 79)).heap.size=w1.heap.size+1 from by simp]at qR
 have AT:RdK w1 ((w1.alloc (.cells #[.int .i64 0,.int .i64 0,.int .i64 0] 79)).alloc (.cells #[.slice none 0 0,.slice none 0 0] 120)) (w1.heap.size+1) 0 (.slice none 0 0) (.slice none 0 0):=⟨qR,World.ownsRow_nil _ _ _ _,World.ownsRow_nil _ _ _ _,((Below.refl _ _).alloc (Nat.le_refl _) _).alloc (by simp) _,by omega⟩
 have zX:=hid AT
 clear qR AT
 go_loopg [36] 6 (fun f x wr=>∃(k:Nat) (ov ev:Value),x = .int .i64 k∧k≤6∧6≤k+f∧Hid (RdK w1 wr (w1.heap.size+1) k ov ev))
 case atStart=>exact⟨0,_,_,rfl,by omega,by omega,zX⟩
 case round=>
  obtain⟨k,ov,ev,rfl,hk,hf,HK⟩:=hrel
  by_cases da:k<6
  ·obtain⟨kd,nm,pv,d5,d6,b0,b1,b2,b3,b4,b5,b6,H7,KR,Gc⟩:=iY.out k da
   obtain⟨pa,pn,pc,rfl⟩:=KR
   have kp:=Qaa.of_fresh HK.out.hb (fun _=>False)
   have c0:=(kp.cell (p:=⟨g,k*7,none⟩) hg (fun e=>e)).trans b0
   have c1:=(kp.cell (p:=⟨g,k*7+1,none⟩) hg (fun e=>e)).trans b1
   have c2:=(kp.cell (p:=⟨g,k*7+2,none⟩) hg (fun e=>e)).trans b2
   have c3:=(kp.cell (p:=⟨g,k*7+3,none⟩) hg (fun e=>e)).trans b3
   have c4:=(kp.cell (p:=⟨g,k*7+4,none⟩) hg (fun e=>e)).trans b4
   have c5:=(kp.cell (p:=⟨g,k*7+5,none⟩) hg (fun e=>e)).trans b5
   have c6:=(kp.cell (p:=⟨g,k*7+6,none⟩) hg (fun e=>e)).trans b6
   have cl:g<wr.heap.size:=Nat.lt_of_lt_of_le hg HK.out.hb.size
   clear b0 b1 b2 b3 b4 b5 b6 kp
   rcases H7 with⟨rfl,rfl,rfl⟩|⟨rfl,rfl,rfl⟩|⟨rfl,rfl,rfl⟩|⟨rfl,rfl,rfl⟩|⟨rfl,rfl,rfl⟩|⟨rfl,rfl,rfl⟩
   ·have jm:=True.intro
    have HV:=hid (show ∀wx,Below w1.heap.size w1 wx→Calls Tryz.prog 123 #[.slice pa pn pc] wx fun e w'=>e = .returned (.tuple #[.string ⟨#[]⟩,.bool true])∧Below wx.heap.size wx w' from fun wx hb=>by have h5:=Gc wx hb;rw[if_neg (by decide)]at h5;exact h5)
    have HA:=hid (HK.out.alloc (.cells #[.int .i64 1,.string ⟨#[]⟩,.string ⟨#[47]⟩,.slice pa pn pc,.int .i64 0,.int .i64 d5,.int .i64 d6] 123))
    have aS:=hid (Qfp (w1.heap.size+1) w1.heap.size ov ev (.slice pa pn pc) ⟨#[47]⟩ ⟨#[]⟩ 0 d5 d6 (wr.alloc (.cells #[.int .i64 1,.string ⟨#[]⟩,.string ⟨#[47]⟩,.slice pa pn pc,.int .i64 0,.int .i64 d5,.int .i64 d6] 123)) (HA.out.hr) (fun wx kj=>HV.out wx (HA.out.hb.trans (kj.mono HA.out.hb.size))) ⟨_,_,_,rfl⟩ (by decide) (by decide) HA.out.hb.size (by obtain⟨a,c,e⟩:=Qea HA.out.ho;exact⟨a,c,e⟩))
    clear Gc
    go_wp2_with fail
    refine(by exact aS.out:Calls _ _ _ _ _).mono ?_
    rintro e w5 ⟨ov',rfl,K1,KY,gR⟩
    obtain⟨ova,ovc,rfl⟩:=Qea KY
    have Ki:RdK w1 w5 (w1.heap.size+1) 1 (.slice ova 1 ovc) ev:=⟨K1,KY,(Qca HA.out.he gR (fun g hg e=>QFa HA.out.he HA.out.hr (by decide) (by rw[hg,e]))),(HA.out.hb.trans (gR.below HA.out.hb.size (fun i hi e=>by omega))),by omega⟩
    have jP:=hid (Ki.alloc (.cells #[.int .i64 0,.string ⟨#[]⟩,.string ⟨#[]⟩,.string ⟨#[]⟩] 39))
    clear K1 KY gR Ki
    go_wp2_with fail
    go_roundg (gk-1)
    case measure=>omega
    case rel=>exact⟨1,_,_,by go_num,by omega,by omega,jP⟩
   ·have jm:=True.intro
    have HV:=hid (show ∀wx,Below w1.heap.size w1 wx→Calls Tryz.prog 123 #[.slice pa pn pc] wx fun e w'=>e = .returned (.tuple #[.string ⟨#[]⟩,.bool true])∧Below wx.heap.size wx w' from fun wx hb=>by have h5:=Gc wx hb;rw[if_neg (by decide)]at h5;exact h5)
    have HA:=hid (HK.out.alloc (.cells #[.int .i64 1,.string ⟨#[]⟩,.string ⟨#[97]⟩,.slice pa pn pc,.int .i64 0,.int .i64 d5,.int .i64 d6] 123))
    have aS:=hid (Qdp (w1.heap.size+1) w1.heap.size ov ev (.slice pa pn pc) ⟨#[97]⟩ ⟨#[]⟩ 0 d5 d6 [] ⟨#[47]⟩ ⟨#[]⟩ ⟨#[47]⟩ ⟨#[47,97]⟩ (wr.alloc (.cells #[.int .i64 1,.string ⟨#[]⟩,.string ⟨#[97]⟩,.slice pa pn pc,.int .i64 0,.int .i64 d5,.int .i64 d6] 123)) (HA.out.hr) (fun wx kj=>HV.out wx (HA.out.hb.trans (kj.mono HA.out.hb.size))) ⟨_,_,_,rfl⟩ (by decide) (by decide) HA.out.hb.size HA.out.ho (by decide) (by decide) (Qvh [] [47] (by decide)) (Qvh [47] [97] (by decide)) (by decide))
    clear Gc
    go_wp2_with fail
    refine(by exact aS.out:Calls _ _ _ _ _).mono ?_
    rintro e w5 ⟨ov',rfl,K1,KY,gR⟩
    obtain⟨ova,ovc,rfl⟩:=Qea KY
    replace KY:w5.ownsRow w1.heap.size 9 1 (.slice ova 2 ovc) 2 (QHc [⟨#[47]⟩,⟨#[47,97]⟩]):=KY
    have K4:=K1.alloc (.cells #[.int .i64 1,.string ⟨#[47,97]⟩,.string ⟨#[]⟩,.string ⟨#[]⟩] 39)
    have kX:=World.ownsRow.alloc KY (.cells #[.int .i64 1,.string ⟨#[47,97]⟩,.string ⟨#[]⟩,.string ⟨#[]⟩] 39)
    have br:=World.ownsRow.alloc (Qca HA.out.he gR (fun g hg e=>by rcases e with e|e;exact QFa HA.out.he HA.out.hr (by decide) (by rw[hg,e]);rcases Qad HA.out.he HA.out.ho (by decide)with q|q;rw[q]at hg;cases hg;exact q (by rw[hg,e]))) (.cells #[.int .i64 1,.string ⟨#[47,97]⟩,.string ⟨#[]⟩,.string ⟨#[]⟩] 39)
    have Jp:=(HA.out.hb.trans (gR.below HA.out.hb.size (fun i hi e=>by rcases e with e|e;omega;have:=(HA.out.ho.lt _ e).1;omega))).alloc ((HA.out.hb.trans (gR.below HA.out.hb.size (fun i hi e=>by rcases e with e|e;omega;have:=(HA.out.ho.lt _ e).1;omega)))).size (.cells #[.int .i64 1,.string ⟨#[47,97]⟩,.string ⟨#[]⟩,.string ⟨#[]⟩] 39)
    have Mh:=hid (Qem (w1.heap.size+1) w1.heap.size (.slice ova 2 ovc) ev (esK 1) ⟨1,⟨#[47,97]⟩,⟨#[]⟩,⟨#[]⟩⟩ _ K4 br (by kernel_rfl) (by unfold esK;decide) (by decide) Jp.size)
    have KX:=hid K4
    have mM:=hid kX
    have kO:=hid br
    have fA:=hid Jp
    clear K1 KY gR K4 kX br Jp
    go_wp2_with fail
    refine(by exact Mh.out:Calls _ _ _ _ _).mono ?_
    rintro e w7 ⟨ev',rfl,J3,fX,mV⟩
    have jE:RdK w1 w7 (w1.heap.size+1) 2 (.slice ova 2 ovc) ev':=⟨J3,Qca mM.out mV (fun g hg e=>by rcases e with e|e;exact QFa mM.out KX.out (by decide) (by rw[hg,e]);rcases Qad mM.out kO.out (by decide)with q|q;rw[q]at hg;cases hg;exact q (by rw[hg,e])),fX,fA.out.trans (mV.below fA.out.size (fun i hi e=>by rcases e with e|e;omega;have:=(kO.out.lt _ e).1;omega)),by omega⟩
    have lh:=hid jE
    clear J3 fX mV jE
    go_wp2_with fail
    go_roundg (gk-1)
    case measure=>omega
    case rel=>exact⟨2,_,_,by go_num,by omega,by omega,lh⟩
   ·have jm:=True.intro
    have HV:=hid (show ∀wx,Below w1.heap.size w1 wx→Calls Tryz.prog 123 #[.slice pa pn pc] wx fun e w'=>e = .returned (.tuple #[.string ⟨#[0,0,0,1]⟩,.bool true])∧Below wx.heap.size wx w' from fun wx hb=>by have h5:=Gc wx hb;rw[if_pos rfl]at h5;exact h5)
    have HA:=hid (HK.out.alloc (.cells #[.int .i64 3,.string ⟨#[]⟩,.string ⟨#[112]⟩,.slice pa pn pc,.int .i64 0,.int .i64 d5,.int .i64 d6] 123))
    have aS:=hid (Qep (w1.heap.size+1) w1.heap.size ov ev (.slice pa pn pc) ⟨#[112]⟩ ⟨#[0,0,0,1]⟩ 0 d5 d6 [⟨#[47]⟩] ⟨#[47,97]⟩ (wr.alloc (.cells #[.int .i64 3,.string ⟨#[]⟩,.string ⟨#[112]⟩,.slice pa pn pc,.int .i64 0,.int .i64 d5,.int .i64 d6] 123)) (HA.out.hr) (fun wx kj=>HV.out wx (HA.out.hb.trans (kj.mono HA.out.hb.size))) ⟨_,_,_,rfl⟩ (by decide) (by decide) HA.out.hb.size HA.out.ho (by decide))
    clear Gc
    go_wp2_with fail
    refine(by exact aS.out:Calls _ _ _ _ _).mono ?_
    rintro e w5 ⟨rfl,K1,gR⟩
    have K4:=K1.alloc (.cells #[.int .i64 2,.string ⟨#[47,97]⟩,.string ⟨#[112]⟩,.string ⟨#[0,0,0,1]⟩] 39)
    have kX:=World.ownsRow.alloc (Qca HA.out.ho gR (fun g hg e=>QFa HA.out.ho HA.out.hr (by decide) (by rw[hg,e]))) (.cells #[.int .i64 2,.string ⟨#[47,97]⟩,.string ⟨#[112]⟩,.string ⟨#[0,0,0,1]⟩] 39)
    have br:=World.ownsRow.alloc (Qca HA.out.he gR (fun g hg e=>QFa HA.out.he HA.out.hr (by decide) (by rw[hg,e]))) (.cells #[.int .i64 2,.string ⟨#[47,97]⟩,.string ⟨#[112]⟩,.string ⟨#[0,0,0,1]⟩] 39)
    have Jp:=(HA.out.hb.trans (gR.below HA.out.hb.size (fun i hi e=>by omega))).alloc ((HA.out.hb.trans (gR.below HA.out.hb.size (fun i hi e=>by omega)))).size (.cells #[.int .i64 2,.string ⟨#[47,97]⟩,.string ⟨#[112]⟩,.string ⟨#[0,0,0,1]⟩] 39)
    have Mh:=hid (Qem (w1.heap.size+1) w1.heap.size ov ev (esK 2) ⟨2,⟨#[47,97]⟩,⟨#[112]⟩,⟨#[0,0,0,1]⟩⟩ _ K4 br (by kernel_rfl) (by unfold esK;decide) (by decide) Jp.size)
    have KX:=hid K4
    have mM:=hid kX
    have kO:=hid br
    have fA:=hid Jp
    clear K1 gR K4 kX br Jp
    go_wp2_with fail
    refine(by exact Mh.out:Calls _ _ _ _ _).mono ?_
    rintro e w7 ⟨ev',rfl,J3,fX,mV⟩
    have jE:RdK w1 w7 (w1.heap.size+1) 3 ov ev':=⟨J3,Qca mM.out mV (fun g hg e=>by rcases e with e|e;exact QFa mM.out KX.out (by decide) (by rw[hg,e]);rcases Qad mM.out kO.out (by decide)with q|q;rw[q]at hg;cases hg;exact q (by rw[hg,e])),fX,fA.out.trans (mV.below fA.out.size (fun i hi e=>by rcases e with e|e;omega;have:=(kO.out.lt _ e).1;omega)),by omega⟩
    have lh:=hid jE
    clear J3 fX mV jE
    go_wp2_with fail
    go_roundg (gk-1)
    case measure=>omega
    case rel=>exact⟨3,_,_,by go_num,by omega,by omega,lh⟩
   ·have jm:=True.intro
    have HV:=hid (show ∀wx,Below w1.heap.size w1 wx→Calls Tryz.prog 123 #[.slice pa pn pc] wx fun e w'=>e = .returned (.tuple #[.string ⟨#[]⟩,.bool true])∧Below wx.heap.size wx w' from fun wx hb=>by have h5:=Gc wx hb;rw[if_neg (by decide)]at h5;exact h5)
    have HA:=hid (HK.out.alloc (.cells #[.int .i64 4,.string ⟨#[]⟩,.string ⟨#[113]⟩,.slice pa pn pc,.int .i64 0,.int .i64 d5,.int .i64 d6] 123))
    have aS:=hid (Qgr (w1.heap.size+1) w1.heap.size ov ev (.slice pa pn pc) ⟨#[113]⟩ ⟨#[]⟩ 0 d5 d6 [⟨#[47]⟩] ⟨#[47,97]⟩ (wr.alloc (.cells #[.int .i64 4,.string ⟨#[]⟩,.string ⟨#[113]⟩,.slice pa pn pc,.int .i64 0,.int .i64 d5,.int .i64 d6] 123)) (HA.out.hr) (fun wx kj=>HV.out wx (HA.out.hb.trans (kj.mono HA.out.hb.size))) ⟨_,_,_,rfl⟩ (by decide) (by decide) HA.out.hb.size HA.out.ho (by decide))
    clear Gc
    go_wp2_with fail
    refine(by exact aS.out:Calls _ _ _ _ _).mono ?_
    rintro e w5 ⟨rfl,K1,gR⟩
    have K4:=K1.alloc (.cells #[.int .i64 3,.string ⟨#[47,97]⟩,.string ⟨#[113]⟩,.string ⟨#[]⟩] 39)
    have kX:=World.ownsRow.alloc (Qca HA.out.ho gR (fun g hg e=>QFa HA.out.ho HA.out.hr (by decide) (by rw[hg,e]))) (.cells #[.int .i64 3,.string ⟨#[47,97]⟩,.string ⟨#[113]⟩,.string ⟨#[]⟩] 39)
    have br:=World.ownsRow.alloc (Qca HA.out.he gR (fun g hg e=>QFa HA.out.he HA.out.hr (by decide) (by rw[hg,e]))) (.cells #[.int .i64 3,.string ⟨#[47,97]⟩,.string ⟨#[113]⟩,.string ⟨#[]⟩] 39)
    have Jp:=(HA.out.hb.trans (gR.below HA.out.hb.size (fun i hi e=>by omega))).alloc ((HA.out.hb.trans (gR.below HA.out.hb.size (fun i hi e=>by omega)))).size (.cells #[.int .i64 3,.string ⟨#[47,97]⟩,.string ⟨#[113]⟩,.string ⟨#[]⟩] 39)
    have Mh:=hid (Qem (w1.heap.size+1) w1.heap.size ov ev (esK 3) ⟨3,⟨#[47,97]⟩,⟨#[113]⟩,⟨#[]⟩⟩ _ K4 br (by kernel_rfl) (by unfold esK;decide) (by decide) Jp.size)
    have KX:=hid K4
    have mM:=hid kX
    have kO:=hid br
    have fA:=hid Jp
    clear K1 gR K4 kX br Jp
    go_wp2_with fail
    refine(by exact Mh.out:Calls _ _ _ _ _).mono ?_
    rintro e w7 ⟨ev',rfl,J3,fX,mV⟩
    have jE:RdK w1 w7 (w1.heap.size+1) 4 ov ev':=⟨J3,Qca mM.out mV (fun g hg e=>by rcases e with e|e;exact QFa mM.out KX.out (by decide) (by rw[hg,e]);rcases Qad mM.out kO.out (by decide)with q|q;rw[q]at hg;cases hg;exact q (by rw[hg,e])),fX,fA.out.trans (mV.below fA.out.size (fun i hi e=>by rcases e with e|e;omega;have:=(kO.out.lt _ e).1;omega)),by omega⟩
    have lh:=hid jE
    clear J3 fX mV jE
    go_wp2_with fail
    go_roundg (gk-1)
    case measure=>omega
    case rel=>exact⟨4,_,_,by go_num,by omega,by omega,lh⟩
   ·have jm:=True.intro
    have HV:=hid (show ∀wx,Below w1.heap.size w1 wx→Calls Tryz.prog 123 #[.slice pa pn pc] wx fun e w'=>e = .returned (.tuple #[.string ⟨#[]⟩,.bool true])∧Below wx.heap.size wx w' from fun wx hb=>by have h5:=Gc wx hb;rw[if_neg (by decide)]at h5;exact h5)
    have HA:=hid (HK.out.alloc (.cells #[.int .i64 2,.string ⟨#[]⟩,.string ⟨#[]⟩,.slice pa pn pc,.int .i64 0,.int .i64 d5,.int .i64 d6] 123))
    have aS:=hid (QJm (w1.heap.size+1) w1.heap.size ov ev (.slice pa pn pc) ⟨#[]⟩ ⟨#[]⟩ 0 d5 d6 [⟨#[47]⟩] ⟨#[47,97]⟩ (wr.alloc (.cells #[.int .i64 2,.string ⟨#[]⟩,.string ⟨#[]⟩,.slice pa pn pc,.int .i64 0,.int .i64 d5,.int .i64 d6] 123)) (HA.out.hr) (fun wx kj=>HV.out wx (HA.out.hb.trans (kj.mono HA.out.hb.size))) ⟨_,_,_,rfl⟩ (by decide) (by decide) HA.out.hb.size HA.out.ho (by decide))
    clear Gc
    go_wp2_with fail
    refine(by exact aS.out:Calls _ _ _ _ _).mono ?_
    rintro e w5 ⟨ov',rfl,K1,KY,gR⟩
    obtain⟨ova,ovc,rfl⟩:=Qea KY
    have Ki:RdK w1 w5 (w1.heap.size+1) 5 (.slice ova 1 ovc) ev:=⟨K1,KY,(Qca HA.out.he gR (fun g hg e=>QFa HA.out.he HA.out.hr (by decide) (by rw[hg,e]))),(HA.out.hb.trans (gR.below HA.out.hb.size (fun i hi e=>by omega))),by omega⟩
    have jP:=hid (Ki.alloc (.cells #[.int .i64 0,.string ⟨#[]⟩,.string ⟨#[]⟩,.string ⟨#[]⟩] 39))
    clear K1 KY gR Ki
    go_wp2_with fail
    go_roundg (gk-1)
    case measure=>omega
    case rel=>exact⟨5,_,_,by go_num,by omega,by omega,jP⟩
   ·have jm:=True.intro
    have HV:=hid (show ∀wx,Below w1.heap.size w1 wx→Calls Tryz.prog 123 #[.slice pa pn pc] wx fun e w'=>e = .returned (.tuple #[.string ⟨#[]⟩,.bool true])∧Below wx.heap.size wx w' from fun wx hb=>by have h5:=Gc wx hb;rw[if_neg (by decide)]at h5;exact h5)
    have HA:=hid (HK.out.alloc (.cells #[.int .i64 2,.string ⟨#[]⟩,.string ⟨#[]⟩,.slice pa pn pc,.int .i64 0,.int .i64 d5,.int .i64 d6] 123))
    have aS:=hid (QJm (w1.heap.size+1) w1.heap.size ov ev (.slice pa pn pc) ⟨#[]⟩ ⟨#[]⟩ 0 d5 d6 [] ⟨#[47]⟩ (wr.alloc (.cells #[.int .i64 2,.string ⟨#[]⟩,.string ⟨#[]⟩,.slice pa pn pc,.int .i64 0,.int .i64 d5,.int .i64 d6] 123)) (HA.out.hr) (fun wx kj=>HV.out wx (HA.out.hb.trans (kj.mono HA.out.hb.size))) ⟨_,_,_,rfl⟩ (by decide) (by decide) HA.out.hb.size HA.out.ho (by decide))
    clear Gc
    go_wp2_with fail
    refine(by exact aS.out:Calls _ _ _ _ _).mono ?_
    rintro e w5 ⟨ov',rfl,K1,KY,gR⟩
    obtain⟨ova,ovc,rfl⟩:=Qea KY
    have Ki:RdK w1 w5 (w1.heap.size+1) 6 (.slice ova 0 ovc) ev:=⟨K1,KY,(Qca HA.out.he gR (fun g hg e=>QFa HA.out.he HA.out.hr (by decide) (by rw[hg,e]))),(HA.out.hb.trans (gR.below HA.out.hb.size (fun i hi e=>by omega))),by omega⟩
    have jP:=hid (Ki.alloc (.cells #[.int .i64 0,.string ⟨#[]⟩,.string ⟨#[]⟩,.string ⟨#[]⟩] 39))
    clear K1 KY gR Ki
    go_wp2_with fail
    go_roundg (gk-1)
    case measure=>omega
    case rel=>exact⟨6,_,_,by go_num,by omega,by omega,jP⟩
  ·obtain rfl:k=6:=by omega
   obtain⟨ea,ec,rfl⟩:=Qea HK.out.he
   have AP:Qjb wr (.slice ea 3 ec) awE:=Qhc (l:=awE) HK.out.he
   have HS:=hid (Qso (.slice ea 3 ec) awE wr AP (by kernel_rfl) (by decide) (by decide))
   have z0:=HK.out.hr.cell 1
   have zl:=HK.out.hr.lt
   clear AP
   go_wp2_with fail
   refine(by exact HS.out:Calls _ _ _ _ _).mono ?_
   rintro e w3 ⟨rfl,Hi⟩
   have Hy:=HK.out.fresh Hi
   have y0:=Hy.hr.cell 1
   have yl:=Hy.hr.lt
   have ho:=mr.out.keeps (Qaa.of_fresh Hy.hb (fun _=>False)) (fun e=>e)
   have hp:=Ai.out.keeps (Qaa.of_fresh Hy.hb (fun _=>False)) (fun e=>e)
   have Mg:=hid Hy
   have fI:=hid ho
   have qw:=hid hp
   have o0:=ho.cell 0
   have o1:=ho.cell 1
   have of0:=ho.free 0
   have of1:=ho.free 1
   have ol:=ho.lt
   have p0:=hp.cell 0
   have p1:=hp.cell 1
   have p2:=hp.cell 2
   have pf0:=hp.free 0
   have pf1:=hp.free 1
   have pf2:=hp.free 2
   have pl:=hp.lt
   clear Hi Hy ho hp z0 zl
   go_wp2_with fail
   have hz:=((((fI.out.set 0 (.string ⟨#[99,97,112,101]⟩)).set 1 (.slice ea (esK 6).length ec)).other ⟨w.heap.size+1,0,none⟩ (.int .i64 0) (by simp)).other ⟨w.heap.size+1,1,none⟩ (.int .i64 0) (by simp)).other ⟨w.heap.size+1,2,none⟩ (.int .i64 0) (by simp)
   have hy:=((((qw.out.other ⟨w.heap.size,0,none⟩ (.string ⟨#[99,97,112,101]⟩) (by simp)).other ⟨w.heap.size,1,none⟩ (.slice ea (esK 6).length ec) (by simp)).set 0 (.int .i64 0)).set 1 (.int .i64 0)).set 2 (.int .i64 0)
   have GU:=HJ.out.trans (Mg.out.hb.mono HJ.out.size)
   have Jw:=GU.size
   have sY:=HJ.out.size
   have C0:w3.ownsRow w.heap.size 39 4 (.slice ea (esK 6).length ec) awE.length (Qqa awE):=QGd Mg.out.he sY
   have hkz0:True:=trivial
   have kz:Qaa (fun g=>g=w.heap.size∨g=w.heap.size+1) w3 (((((w3.setCell ⟨w.heap.size,0,none⟩ (.string ⟨#[99,97,112,101]⟩)).setCell ⟨w.heap.size,1,none⟩ (.slice ea (esK 6).length ec)).setCell ⟨w.heap.size+1,0,none⟩ (.int .i64 0)).setCell ⟨w.heap.size+1,1,none⟩ (.int .i64 0)).setCell ⟨w.heap.size+1,2,none⟩ (.int .i64 0)):=by
    have k0:=Qaa.refl (S:=fun g=>g=w.heap.size∨g=w.heap.size+1) w3
    exact((((k0.setCell (.inr (.inl rfl)) _).setCell (.inr (.inl rfl)) _).setCell (.inr (.inr rfl)) _).setCell (.inr (.inr rfl)) _).setCell (.inr (.inr rfl)) _
   have x0:=hz.cell 0
   have x1:=hz.cell 1
   have x2:=hy.cell 0
   have x3:=hy.cell 1
   have x4:=hy.cell 2
   clear hz hy
   generalize (((((w3.setCell ⟨w.heap.size,0,none⟩ (.string ⟨#[99,97,112,101]⟩)).setCell ⟨w.heap.size,1,none⟩ (.slice ea (esK 6).length ec)).setCell ⟨w.heap.size+1,0,none⟩ (.int .i64 0)).setCell ⟨w.heap.size+1,1,none⟩ (.int .i64 0)).setCell ⟨w.heap.size+1,2,none⟩ (.int .i64 0))=wz at x0 x1 x2 x3 x4 kz ⊢
   refine bodyPost_ret (v:=.tuple #[.agg #[.string ⟨#[99,97,112,101]⟩,.slice ea (esK 6).length ec],.agg #[.int .i64 0,.int .i64 0,.int .i64 0],.int .i64 0]) ?_ rfl ⟨.slice ea (esK 6).length ec,rfl,Qca C0 kz (fun g hg e=>?_),?_⟩
   ·simp[results,Tryz.results40,go_sem,x0,x1,x2,x3,x4]
   ·have e1:=(Mg.out.he.lt g hg).1
    have e2:=Ai.out.lt
    rcases e with e|e <;> omega
   ·exact GU.trans (kz.below Jw (fun i hi e=>by rcases e with e|e <;> omega))
theorem QQb(w:World)(lay:Qog w) :
 Calls Tryz.prog 11 #[] w fun e w'=>e = .returned (.bool true)∧Below w.heap.size w w':=by
 have hr:=Q8n w lay
 unfold Qvl at hr
 have HR:=hid hr
 clear lay hr
 go_enter Tryz.func11,Tryz.ntmps11
 go_wp2_with fail
 refine(by exact HR.out:Calls _ _ _ _ _).mono ?_
 rintro e w1 ⟨ev,rfl,hE,hb⟩
 replace hE:w1.ownsRow w.heap.size 39 4 ev 3 (Qqa awE):=hE
 obtain⟨g,c,rfl,_,hg⟩:=World.ownsRow.form hE (by decide)
 have d0:w1.cell? ⟨g,0,none⟩=some (.int .i64 1):=World.ownsRow.cellAt hE 0 (by decide)
 have d1:w1.cell? ⟨g,1,none⟩=some (.string ⟨#[47,97]⟩):=World.ownsRow.cellAt hE 1 (by decide)
 have d2:w1.cell? ⟨g,2,none⟩=some (.string ⟨#[]⟩):=World.ownsRow.cellAt hE 2 (by decide)
 have d3:w1.cell? ⟨g,3,none⟩=some (.string ⟨#[]⟩):=World.ownsRow.cellAt hE 3 (by decide)
 have d4:w1.cell? ⟨g,4,none⟩=some (.int .i64 2):=World.ownsRow.cellAt hE 4 (by decide)
 have d5:w1.cell? ⟨g,5,none⟩=some (.string ⟨#[47,97]⟩):=World.ownsRow.cellAt hE 5 (by decide)
 have d6:w1.cell? ⟨g,6,none⟩=some (.string ⟨#[112]⟩):=World.ownsRow.cellAt hE 6 (by decide)
 have d7:w1.cell? ⟨g,7,none⟩=some (.string ⟨#[0,0,0,1]⟩):=World.ownsRow.cellAt hE 7 (by decide)
 have d8:w1.cell? ⟨g,8,none⟩=some (.int .i64 3):=World.ownsRow.cellAt hE 8 (by decide)
 have d9:w1.cell? ⟨g,9,none⟩=some (.string ⟨#[47,97]⟩):=World.ownsRow.cellAt hE 9 (by decide)
 have d10:w1.cell? ⟨g,10,none⟩=some (.string ⟨#[113]⟩):=World.ownsRow.cellAt hE 10 (by decide)
 have d11:w1.cell? ⟨g,11,none⟩=some (.string ⟨#[]⟩):=World.ownsRow.cellAt hE 11 (by decide)
 have HB:=hid hb
 clear hE hb HR
 go_wp2_with fail
 exact bodyPost_ret (v:=.bool true) (by simp[results,Tryz.results11,go_sem]) rfl ⟨rfl,(HB.out.alloc HB.out.size _).alloc (by have:=HB.out.size;simp;omega) _⟩
end Go.Proofs.YtgaboghigefgbaaGreatDoor
