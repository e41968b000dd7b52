/- bringupref13.Put: region 4 (printed by govp.py). | bringupref13.Put: an edit put among edits, somewhere. -/
import Derived.Test.YtgaboghigefgbaaGreatDoorZ20
import Derived.Test.YtgaboghigefgbaaGreatDoorZ21
import Derived.Test.YtgaboghigefgbaaGreatDoorZ2
import Derived.IntWalk
set_option linter.all false
set_option maxHeartbeats 8000000
namespace Go.Proofs.YtgaboghigefgbaaGreatDoor
open Go.Lib (hid)
open Go.RowKit
noncomputable def Qqe:Array Oper:=(QXa (Tryz.f35.body.getD .skip) 4).getD #[]
theorem ouR:Qjc .any Qqe=true:=by kernel_rfl
theorem Q6s:Qbc Qqe=true:=by kernel_rfl
theorem QAu:Qqe.size=7:=by kernel_rfl
def OuF(_ k _:Nat)(x:Qja)(lv sv:Value)(_:List Value)(nB:Nat)(rv:Value)(j:Nat):Value→World→Prop:=match j with
 | 0=>fun u _=>u = .agg #[.int .i64 x.kind,.string x.path,.string x.name,.string x.value]
 | 1=>fun u _=>u = .slice (some ⟨nB,0,none⟩) 1 1
 | 2=>fun u _=>u=lv
 | 3=>fun u _=>u = .int .i64 (k:Int)
 | 4=>fun u _=>u=sv
 | 5=>fun u _=>u=rv
 | 6=>fun u _=>u=rv
 | _=>fun _ _=>True
def OuC(bb _ _:Nat)(x:Qja)(_ _:Value)(_:List Value)(_ w:World):Prop:=Holds w bb #[.int .i64 x.kind,.string x.path,.string x.name,.string x.value] 39
def OuE(_ _ m:Nat)(x:Qja)(_ _:Value)(news:List Value)(nB:Nat)(rv:Value)(W w:World)(l:Array Bool):Prop:=
 if l.getD 1 false=false then(Qaa (fun _=>False) W w)else
 if l.getD 5 false=false then(Qaa (fun _=>False) W w∧Holds w nB #[.int .i64 x.kind,.string x.path,.string x.name,.string x.value] 39∧W.heap.size≤nB)else
 w.ownsRow W.heap.size 39 4 rv (1+m) ([.int .i64 x.kind,.string x.path,.string x.name,.string x.value]++news)∧Below W.heap.size W w
section
variable{bb k m:Nat}{x:Qja}{lv sv:Value}{news:List Value}{nB:Nat}{rv:Value}{W w:World}{l:Array Bool}
theorem OuE.other{j:Nat}(h:OuE bb k m x lv sv news nB rv W w l)(n0:j≠1)(n1:j≠5):OuE bb k m x lv sv news nB rv W w (l.setIfInBounds j true):=by
 unfold OuE at h ⊢
 rw[Qdb n0,Qdb n1]
 exact h
theorem OuE.at0(h:OuE bb k m x lv sv news nB rv W w l)(no:l.getD 1 false=false):Qaa (fun _=>False) W w:=by
 unfold OuE at h
 rw[no,if_pos rfl]at h
 exact h
theorem OuE.to0(hs:1<l.size)(no:l.getD 5 false=false)(h:Qaa (fun _=>False) W w∧Holds w nB #[.int .i64 x.kind,.string x.path,.string x.name,.string x.value] 39∧W.heap.size≤nB):OuE bb k m x lv sv news nB rv W w (l.setIfInBounds 1 true):=by
 unfold OuE
 rw[Q9b hs,if_neg (by simp)]
 rw[Qdb (show 1≠5 by decide),no,if_pos rfl]
 exact h
theorem OuE.at1(h:OuE bb k m x lv sv news nB rv W w l)(y0:l.getD 1 false=true)(no:l.getD 5 false=false):Qaa (fun _=>False) W w∧Holds w nB #[.int .i64 x.kind,.string x.path,.string x.name,.string x.value] 39∧W.heap.size≤nB:=by
 unfold OuE at h
 rw[y0,if_neg (by simp)]at h
 rw[no,if_pos rfl]at h
 exact h
theorem OuE.to1(y0:l.getD 1 false=true)(hs:5<l.size)(h:w.ownsRow W.heap.size 39 4 rv (1+m) ([.int .i64 x.kind,.string x.path,.string x.name,.string x.value]++news)∧Below W.heap.size W w):OuE bb k m x lv sv news nB rv W w (l.setIfInBounds 5 true):=by
 unfold OuE
 rw[Qdb (show 5≠1 by decide),y0,if_neg (by simp)]
 rw[Q9b hs,if_neg (by simp)]
 exact h
theorem OuF.ghost0{nB':Nat}{j:Nat}{u:Value}(h:OuF bb k m x lv sv news nB rv j u w)(n0:j≠1):OuF bb k m x lv sv news nB' rv j u w:=by
 unfold OuF at *
 split at h
 all_goals first
  | exact h
  | exact absurd rfl n0
theorem OuF.ghost1{rv':Value}{j:Nat}{u:Value}(h:OuF bb k m x lv sv news nB rv j u w)(n0:j≠5)(n1:j≠6):OuF bb k m x lv sv news nB rv' j u w:=by
 unfold OuF at *
 split at h
 all_goals first
  | exact h
  | exact absurd rfl n0
  | exact absurd rfl n1
theorem OuF.world{j:Nat}{u:Value}{w':World}(h:OuF bb k m x lv sv news nB rv j u w):OuF bb k m x lv sv news nB rv j u w':=by
 unfold OuF at *
 split at h
 all_goals exact h
end
set_option maxRecDepth 100000 in
theorem Qyg{Q:Exit→Act→World→Prop}(bb k m:Nat)(x:Qja)(lv sv:Value)(news:List Value)(W w:World)(A:Act)(hsz:A.tmps.size=33)(Jd:Hid (∀W:World,(Instr.slice 29 lv (some (.int .i64 (k:Int))) none none).run Tryz.prog W = .ok sv W))(aj:Hid (∀wx,Qaa (fun _=>False) W wx→Src Tryz.prog 4 29 sv m news wx))(hm:m≤1000)
 (a0:A.tmps.getD 0 undef=lv) (a3:A.tmps.getD 3 undef = .pointer (some ⟨bb,0,none⟩)) (a5:A.tmps.getD 5 undef = .int .i64 (k:Int)) (hC0:OuC bb k m x lv sv news W w) (hE0:Qaa (fun _=>False) W w)
 (hQ:∀c w' (nB:Nat) (rv:Value),Qrb Qqe A c→c.tmps.getD 6 undef=rv→(w'.ownsRow W.heap.size 39 4 rv (1+m) ([.int .i64 x.kind,.string x.path,.string x.name,.string x.value]++news)∧Below W.heap.size W w')→Q .normal c w') :
 wpAny Tryz.prog .any Qqe Q Qqe.size (Array.replicate Qqe.size false) A w:=by
 refine QVa (fun l c wx=>∃nB rv,QAb Qqe A (OuF bb k m x lv sv news nB rv) (fun _=>True) l c wx∧(l.getD 5 false=false→OuC bb k m x lv sv news W wx)∧OuE bb k m x lv sv news nB rv W wx l) ouR ?hend ?Hk _ _ _ _ (by simp) (by simp) ⟨0,.slice none 0 0,QAb.start trivial,fun _=>hC0,by unfold OuE;rw[if_pos (QXk _ _)];exact hE0⟩
 case hend=>
  rintro l c wx ⟨nB,rv,hI,hC,hE⟩ hl
  have hh:∀k,k<7→l.getD k false=true:=fun k hk=>hl k (by rw[QAu];exact hk)
  have lL:wx.ownsRow W.heap.size 39 4 rv (1+m) ([.int .i64 x.kind,.string x.path,.string x.name,.string x.value]++news)∧Below W.heap.size W wx:=by
   unfold OuE at hE
   rw[hh 1 (by decide),if_neg (by simp)]at hE
   rw[hh 5 (by decide),if_neg (by simp)]at hE
   exact hE
  exact hQ c wx nB rv hI.1.1 (hI.fact 6 6 rfl (hh 6 (by decide))) lL
 intro l c wx mw i' op ho hl Ha K' hK'
 obtain⟨nB,rv,hI,hC,hE⟩:=mw
 have mg:l.size=7:=by rw[hI.1.2.2.1.1,QAu]
 have hi':i'<7:=by rw[←QAu];exact(Array.getElem?_eq_some_iff.1 ho).1
 have Hf:=ho
 simp only[Qqe,QXa,Tryz.f35,Option.getD_some,reduceIte,Nat.reduceEqDiff]at ho
 have s0:=(hI.slot 0 (by kernel_rfl)).trans a0
 have s3:=(hI.slot 3 (by kernel_rfl)).trans a3
 have s5:=(hI.slot 5 (by kernel_rfl)).trans a5
 have fs:=And.intro True.intro True.intro
 simp only[Array.getD_eq_getD_getElem?]at s0 s3 s5
 have GV:i'=0∨i'=1∨i'=2∨i'=3∨i'=4∨i'=5∨i'=6:=by omega
 clear hi'
 rcases GV with rfl|rfl|rfl|rfl|rfl|rfl|rfl
 all_goals cases ho
 ·have hc:=hC (hI.1.2.2.1.2.no_far 7 hl (by kernel_rfl:QZd Qqe 7 5 0=true))
  have x0:=hc.cell 0
  have x1:=hc.cell 1
  have x2:=hc.cell 2
  have x3:=hc.cell 3
  have xl:=hc.lt
  go_simp
  exact hK' _ _ ⟨nB,rv,hI.step Q6s 0 21 rfl (by rw[hsz];decide) _ _ Hf Ha trivial (fun _ _ h=>h) rfl,(fun h=>hC (Qia h)),hE.other (by decide) (by decide)⟩
 ·have e0:c.tmps.getD 21 undef = .agg #[.int .i64 x.kind,.string x.path,.string x.name,.string x.value]:=hI.fact 0 21 rfl (hI.1.2.2.1.2.yes_far 7 Hf Ha (by decide) (by kernel_rfl))
  have f0:=e0
  simp only[Array.getD_eq_getD_getElem?]at e0
  have hc:=hC (hI.1.2.2.1.2.no_far 7 hl (by kernel_rfl:QZd Qqe 7 5 1=true))
  have hp:=hE.at0 hl
  have un:=hI.1.2.2.1.2.no_far 7 hl (by kernel_rfl:QZd Qqe 7 5 1=true)
  have mE:Qaa (fun _=>False) W (wx.alloc (.cells #[.int .i64 x.kind,.string x.path,.string x.name,.string x.value] 39))∧Holds (wx.alloc (.cells #[.int .i64 x.kind,.string x.path,.string x.name,.string x.value] 39)) wx.heap.size #[.int .i64 x.kind,.string x.path,.string x.name,.string x.value] 39∧W.heap.size≤wx.heap.size:=⟨hp.alloc _,Holds.new _ _ _,hp.size⟩
  have gB:OuC bb k m x lv sv news W (wx.alloc (.cells #[.int .i64 x.kind,.string x.path,.string x.name,.string x.value] 39)):=Holds.alloc hc _
  go_simp
  have hJ:QAb Qqe A (OuF bb k m x lv sv news (wx.heap.size) rv) (fun _=>True) l c wx:=⟨hI.1.other (fun j hj u hF=>OuF.ghost0 hF (Qbb hj hl)),hI.2⟩
  exact hK' _ _ ⟨wx.heap.size,_,hJ.step Q6s 1 22 rfl (by rw[hsz];decide) _ _ Hf Ha trivial (fun _ _ h=>OuF.world h) rfl,fun _=>gB,OuE.to0 (by rw[mg];decide) un mE⟩
 ·go_simp
  exact hK' _ _ ⟨nB,rv,hI.step Q6s 2 23 rfl (by rw[hsz];decide) _ _ Hf Ha trivial (fun _ _ h=>h) rfl,(fun h=>hC (Qia h)),hE.other (by decide) (by decide)⟩
 ·go_simp
  exact hK' _ _ ⟨nB,rv,hI.step Q6s 3 24 rfl (by rw[hsz];decide) _ _ Hf Ha trivial (fun _ _ h=>h) rfl,(fun h=>hC (Qia h)),hE.other (by decide) (by decide)⟩
 ·have e2:c.tmps.getD 23 undef=lv:=hI.fact 2 23 rfl (hI.1.2.2.1.2.yes_far 7 Hf Ha (by decide) (by kernel_rfl))
  have f2:=e2
  simp only[Array.getD_eq_getD_getElem?]at e2
  have e3:c.tmps.getD 24 undef = .int .i64 (k:Int):=hI.fact 3 24 rfl (hI.1.2.2.1.2.yes_far 7 Hf Ha (by decide) (by kernel_rfl))
  have f3:=e3
  simp only[Array.getD_eq_getD_getElem?]at e3
  have kw:=Jd.out
  go_simp
  exact hK' _ _ ⟨nB,rv,hI.step Q6s 4 25 rfl (by rw[hsz];decide) _ _ Hf Ha trivial (fun _ _ h=>h) rfl,(fun h=>hC (Qia h)),hE.other (by decide) (by decide)⟩
 ·have e1:c.tmps.getD 22 undef = .slice (some ⟨nB,0,none⟩) 1 1:=hI.fact 1 22 rfl (hI.1.2.2.1.2.yes_far 7 Hf Ha (by decide) (by kernel_rfl))
  have f1:=e1
  simp only[Array.getD_eq_getD_getElem?]at e1
  have e4:c.tmps.getD 25 undef=sv:=hI.fact 4 25 rfl (hI.1.2.2.1.2.yes_far 7 Hf Ha (by decide) (by kernel_rfl))
  have f4:=e4
  simp only[Array.getD_eq_getD_getElem?]at e4
  have hc:=hC (hI.1.2.2.1.2.no_far 7 hl (by kernel_rfl:QZd Qqe 7 5 5=true))
  have y0:l.getD 1 false=true:=hI.1.2.2.1.2.yes_far 7 Hf Ha (by decide) (by kernel_rfl)
  have hp:=hE.at1 y0 hl
  obtain⟨ME,tL,yY⟩:=hp
  obtain⟨i1,hi,H4,Hp,gj⟩:=info_parts Quj
  refine QVe wx rfl (.tmp 22) (.tmp 25) 29 29 rfl W.heap.size 39 i1 _ 4 56 Tryz.underlying29 hi H4 Hp gj rfl (.slice (some ⟨nB,0,none⟩) 1 1) 1 [.int .i64 x.kind,.string x.path,.string x.name,.string x.value] (by exact f1) ⟨rfl,.inr ⟨nB,1,#[.int .i64 x.kind,.string x.path,.string x.name,.string x.value],rfl,yY,tL,Nat.le_refl _,by unfold maxLen;omega,rfl,rfl⟩⟩ sv (by exact f4) m news (aj.out wx ME) (by unfold maxLen;omega) (by omega) ME.size ?_
  intro v3 w2 Hj Hd Gp
  have kg:Qaa (fun b=>W.heap.size≤b) wx w2:=Qaa.of_grown Hd (fun i e=>by cases e;exact yY)
  have im:Below W.heap.size W w2:=Qaa.below (S:=fun b=>W.heap.size≤b) ((ME.mono (fun _ _ e=>e.elim)).trans kg (fun _ _ e=>e)) (Nat.le_refl _) (fun i hi e=>by omega)
  have mE:w2.ownsRow W.heap.size 39 4 v3 (1+m) ([.int .i64 x.kind,.string x.path,.string x.name,.string x.value]++news)∧Below W.heap.size W w2:=⟨Hj,im⟩
  have u6:=hI.1.2.2.1.2.no_far 7 hl (by kernel_rfl:QZd Qqe 7 6 5=true)
  have hJ:QAb Qqe A (OuF bb k m x lv sv news nB (v3)) (fun _=>True) l c wx:=⟨hI.1.other (fun j hj u hF=>OuF.ghost1 hF (Qbb hj hl) (Qbb hj u6)),hI.2⟩
  exact hK' _ _ ⟨_,v3,hJ.step Q6s 5 26 rfl (by rw[hsz];decide) _ _ Hf Ha trivial (fun _ _ h=>OuF.world h) rfl,fun h=>absurd h (by rw[Q9b (by rw[mg];decide)];simp),OuE.to1 y0 (by rw[mg];decide) mE⟩
 ·have e5:c.tmps.getD 26 undef=rv:=hI.fact 5 26 rfl (hI.1.2.2.1.2.yes_far 7 Hf Ha (by decide) (by kernel_rfl))
  have f5:=e5
  simp only[Array.getD_eq_getD_getElem?]at e5
  go_simp
  exact hK' _ _ ⟨nB,rv,hI.step Q6s 6 6 rfl (by rw[hsz];decide) _ _ Hf Ha trivial (fun _ _ h=>h) rfl,(fun h=>hC (Qia h)),hE.other (by decide) (by decide)⟩
theorem Qpk:∀w:World,(Go.sizeOf 39).run Tryz.prog w = .ok 4 w:=fun w=>by kernel_rfl
theorem QBn(W:World)(g len cap l:Nat)(h:l≤len)(hc:len≤cap)(hl:l<cap) :
 (Instr.slice 29 (.slice (some ⟨g,0,none⟩) len cap) (some (.int .i64 (l:Int))) none none).run Tryz.prog W = .ok (.slice (some ⟨g,l*4,none⟩) (len-l) (cap-l)) W:=by
 have ht':Tryz.prog.underlying 29=some (.slice (Tryz.prog.elem 29)):=by kernel_rfl
 rw[run_slice_l W _ _ _ _ ht' .i64 _ (by omega) (by omega),show Tryz.prog.elem 29=39 by kernel_rfl,Qpk]
 have Hm:¬cap=l:=by omega
 by_cases h0:l=0
 ·subst h0
  simp[Result.andThen,sliced,Addr.add,Hm]
 ·simp[Result.andThen,sliced,Addr.add,Hm,h0]
  omega
theorem Qgp(W:World)(g len:Nat) :
 (Instr.slice 29 (.slice (some ⟨g,0,none⟩) len len) (some (.int .i64 (len:Int))) none none).run Tryz.prog W = .ok (.slice (some ⟨g,0,none⟩) 0 0) W:=by
 have ht':Tryz.prog.underlying 29=some (.slice (Tryz.prog.elem 29)):=by kernel_rfl
 rw[run_slice_l W _ _ _ _ ht' .i64 _ (by omega) (by omega),show Tryz.prog.elem 29=39 by kernel_rfl,Qpk]
 simp[Result.andThen,sliced]
set_option maxRecDepth 100000 in
theorem Qat(base:Nat)(v:Value)(l:List Qja)(x:Qja)(w:World)(h:w.ownsRow base 39 4 v l.length (Qqa l))(hnil:l=[]→v = .slice none 0 0)(hb:base≤w.heap.size)(hl:l.length≤1000) :
 Calls Tryz.prog 35 #[v,.agg #[.int .i64 x.kind,.string x.path,.string x.name,.string x.value]] w fun e w'=>∃(v':Value) (k:Nat),k≤l.length∧e = .returned v'∧w'.ownsRow base 39 4 v' (l.length+1) (Qqa (l.take k++x::l.drop k))∧Below w.heap.size w w':=by
 have kM:=Qhc h
 obtain⟨va,vc,rfl⟩:=Qea h
 have gI:=hid h
 have JQ:=hid hnil
 have Mf:=hid kM
 have ke:=Holds.new w #[.int .i64 x.kind,.string x.path,.string x.name,.string x.value] 39
 have He:Below w.heap.size w (w.alloc (.cells #[.int .i64 x.kind,.string x.path,.string x.name,.string x.value] 39)):=(Below.refl _ _).alloc (Nat.le_refl _) _
 have G5:=hid ke
 have pX:=hid He
 clear h hnil kM ke He
 go_enter Tryz.func35,Tryz.ntmps35
 go_upto_block 0 with fail
 go_cut [5] (fun y wx=>∃k:Nat,k≤l.length∧y = .int .i64 k∧Hid (Below w.heap.size w wx)∧Hid (Holds wx w.heap.size #[.int .i64 x.kind,.string x.path,.string x.name,.string x.value] 39))
 case first=>
  go_wp2_with fail
  go_loopg [5] (l.length) (fun f y wr=>∃k:Nat,y = .int .i64 k∧k≤l.length∧l.length≤k+f∧Hid (Below w.heap.size w wr)∧Hid (Holds wr w.heap.size #[.int .i64 x.kind,.string x.path,.string x.name,.string x.value] 39))
  case atStart=>exact⟨0,rfl,by omega,by omega,pX,G5⟩
  case round=>
   obtain⟨k,rfl,hk,hf,HB,HH⟩:=hrel
   by_cases Hh:k<l.length
   ·have ve:(k:Int)<(l.length:Int):=by omega
    obtain⟨a',c',e',_,_,h3⟩:=Mf.out.new HB.out
    simp only[Value.slice.injEq]at e'
    obtain⟨rfl,-,rfl⟩:=e'
    obtain⟨g,o,rfl,hg,H7⟩:=h3 (by omega)
    obtain⟨d0,d1,d2,d3⟩:=H7 k Hh
    have BO:=hid (Qeo l[k] x)
    have c0:=HH.out.cell 0
    have c1:=HH.out.cell 1
    have c2:=HH.out.cell 2
    have c3:=HH.out.cell 3
    have cl:=HH.out.lt
    clear H7 h3
    generalize l[k]=y at *
    have hq:ltE y x=true∨ltE y x=false:=by cases ltE y x <;> simp
    generalize ltE y x=q at *
    go_wp2_with fail
    go_region_with (go_at_call 56;refine(BO.out _).mono ?_;rintro e w3 ⟨rfl,Hi⟩)
    all_goals
     have sH:Below wr.heap.size wr wr.drew:=(Below.refl _ _).drew
     have Hu:=sH.trans Hi
     have G6:=hid (HB.out.trans (Hu.mono HB.out.size))
     have fF:=hid (HH.out.keeps (Qaa.of_fresh Hu (fun _=>False)) (fun e=>e))
     clear sH Hi Hu d0 d1 d2 d3 c0 c1 c2 c3 cl
     rcases hq with rfl|rfl
     ·go_wp2_with fail
      go_roundg (gk-1)
      case measure=>omega
      case rel=>exact⟨k+1,by go_num,by omega,by omega,G6,fF⟩
     ·go_wp2_with fail
      go_meet
      exact⟨k,hk,rfl,G6,fF⟩
   ·have ve:¬(k:Int)<(l.length:Int):=by omega
    go_wp2_with fail
    go_quiet (fail)
    go_wp2_with fail
    go_meet
    exact⟨k,hk,rfl,hid (HB.out.trans (Qaa.below (S:=fun _=>False) ((Qaa.refl _ _).drewN _) HB.out.size (fun _ _ e=>e))),hid (HH.out.drewN _)⟩
 case rest=>
  obtain⟨k,hk,rfl,HB,HH⟩:=hcut
  obtain⟨w1,rfl⟩:∃y:World,y=wc:=⟨_,rfl⟩
  have h1:=Qhb gI.out HB.out
  have ko:=HB.out.size
  have c0:=HH.out.cell 0
  have c1:=HH.out.cell 1
  have c2:=HH.out.cell 2
  have c3:=HH.out.cell 3
  have cl:=HH.out.lt
  obtain⟨i0,hi,H4,Hp,gj⟩:=info_parts Quj
  clear gI Mf pX G5
  by_cases hl0:l=[]
  ·have jI:=JQ.out hl0
   subst hl0
   cases jI
   obtain rfl:k=0:=by simpa using hk
   go_upto_region 4 with fail
   refine wp_region_any (by kernel_rfl) ?_
   refine Q5a (ops':=Qqe) (by kernel_rfl) ?_
   refine Qyg w.heap.size 0 0 x (.slice none 0 0) (.slice none 0 0) [] w1 _ _ rfl (hid (fun W=>by kernel_rfl)) (hid (fun wx _=>Src.ofNil wx Tryz.underlying29 0)) (by omega) rfl rfl rfl HH.out.drew ((Qaa.refl _ w1).drew) ?_
   intro c w2 nB rv Ga h6 hq
   obtain⟨Ht,Hc⟩:=hq
   obtain⟨y6,y21,y22,y23,y24,y25,y26,rfl⟩:=Ga.ex [6,21,22,23,24,25,26] (by kernel_rfl)
   simp only[List.setIfInBounds_toArray,List.set_cons_zero,List.set_cons_succ]at h6 ⊢
   have h6':y6=rv:=h6
   subst h6'
   obtain⟨rg,rc,rfl,Hx,gd⟩:=Ht.form (by omega)
   have jy:=hid Ht
   have GI:=hid Hc
   have GB:=Hc.size
   clear Ht Hc Ga h6
   go_wp2_with (at_builtin;refine wpList_append_own _ rfl (.tmp 30) (.tmp 31) 29 rfl w1.heap.size 39 i0 (.agg #[.int .i64 0,.string ⟨#[]⟩,.string ⟨#[]⟩,.string ⟨#[]⟩]) 4 56 Tryz.underlying29 hi H4 Hp gj rfl (by decide) (.slice none 0 0) 0 [] rfl (World.ownsRow_nil _ _ _ _) ⟨rg,0,none⟩ (1+0) rc ([.int .i64 x.kind,.string x.path,.string x.name,.string x.value]++[]) rfl rfl ?c1 ?c2 ?c3 ?c4 ?c5 ?_)
   case c1=>
    intro j u hu
    have h5:=jy.out.cells (g:=rg) rfl j u (by simpa using hu)
    rw[Addr.add_lit]at h5
    simpa using h5
   case c2=>exact⟨rfl,rfl,rfl,rfl⟩
   case c3=>unfold maxLen;omega
   intro v11 w11 gO H8 _
   have kA:=GI.out.grown H8 GB (fun q hq=>by simp[Value.ownBlock]at hq)
   have g9:=Q8b gO (show base≤w1.heap.size by omega)
   clear H8 gO
   obtain⟨va,vc3,rfl⟩:=Qea g9
   go_wp2_with fail
   go_ret
   exact⟨.slice va (0+(1+0)) vc3,0,Nat.le_refl _,rfl,g9,HB.out.trans (kA.mono ko)⟩
  ·obtain⟨cg,cc,jI,rL,ni⟩:∃cg cc,(.slice va l.length vc:Value) = .slice (some ⟨cg,0,none⟩) l.length cc∧l.length≤cc∧cc≤maxLen:=by
    rcases h1.2 with⟨_,h0⟩|⟨g',cp,cur,e,_,_,q1,q2,_⟩
    ·exact absurd (List.length_eq_zero_iff.1 h0) hl0
    ·exact⟨g',cp,e,q1,q2⟩
   cases jI
   unfold maxLen at ni
   clear hl0
   have dE:=hid h1
   clear h1
   by_cases Kn:vc=k
   ·obtain rfl:k=l.length:=by omega
    subst Kn
    go_upto_region 4 with fail
    refine wp_region_any (by kernel_rfl) ?_
    refine Q5a (ops':=Qqe) (by kernel_rfl) ?_
    refine Qyg w.heap.size l.length 0 x (.slice (some ⟨cg,0,none⟩) l.length l.length) (.slice (some ⟨cg,0,none⟩) 0 0) [] w1 _ _ rfl (hid (fun W=>Qgp W cg l.length)) (hid (fun wx _=>Src.ofSlice wx Tryz.underlying29 ⟨cg,0,none⟩ 0 0 [] rfl (fun j u hu=>by simp at hu) (fun u hu=>by cases hu))) (by omega) rfl rfl rfl HH.out.drew ((Qaa.refl _ w1).drew) ?_
    intro c w2 nB rv Ga h6 hq
    obtain⟨Ht,Hc⟩:=hq
    obtain⟨y6,y21,y22,y23,y24,y25,y26,rfl⟩:=Ga.ex [6,21,22,23,24,25,26] (by kernel_rfl)
    simp only[List.setIfInBounds_toArray,List.set_cons_zero,List.set_cons_succ]at h6 ⊢
    have h6':y6=rv:=h6
    subst h6'
    obtain⟨rg,rc,rfl,Hx,gd⟩:=Ht.form (by omega)
    have jy:=hid Ht
    have GI:=hid Hc
    have GB:=Hc.size
    clear Ht Hc Ga h6
    go_wp2_with (at_builtin;refine wpList_append_grows _ rfl (.tmp 30) (.tmp 31) 29 rfl 39 i0 (.agg #[.int .i64 0,.string ⟨#[]⟩,.string ⟨#[]⟩,.string ⟨#[]⟩]) 4 56 Tryz.underlying29 hi H4 Hp gj rfl (by decide) (some ⟨cg,0,none⟩) l.length l.length (Qqa (l.take l.length)) rfl (by intro h;cases h) ?q0 ?q1 ⟨rg,0,none⟩ (1+0) rc ([.int .i64 x.kind,.string x.path,.string x.name,.string x.value]++[]) rfl ?q2 ?q3 ?q4 ?q5 ?q6 ?q7 ?_)
    case q0=>rw[Q4c];simp <;> omega
    case q1=>intro b Hc;cases Hc;rw[QRd];exact QYk (Qhb dE.out GI.out) _
    case q2=>rw[List.length_append,List.length_nil];simp <;> omega
    case q3=>exact jy.out.cells (g:=rg) rfl
    case q4=>
     intro u hu
     rcases List.mem_append.1 hu with hu|hu
     ·simp at hu;rcases hu with rfl|rfl|rfl|rfl <;> rfl
     ·cases hu
    case q5=>omega
    case q6=>unfold maxLen;omega
    case q7=>omega
    intro v11 w11 gO H8
    have kA:=GI.out.grown H8 GB (fun q hq=>by cases hq)
    have g9:=Q8b gO (show base≤w2.heap.size by omega)
    rw[show l.length+(1+0)=l.length+1 from by omega]at g9
    clear H8 gO
    obtain⟨va,vc3,rfl⟩:=Qea g9
    go_wp2_with fail
    go_ret
    exact⟨.slice va (l.length+1) vc3,l.length,hk,rfl,by rw[Qge,QPc];simpa[Qqa]using g9,(HB.out.trans (kA.mono ko))⟩
   ·have mF:k<vc:=by omega
    go_upto_region 4 with fail
    refine wp_region_any (by kernel_rfl) ?_
    refine Q5a (ops':=Qqe) (by kernel_rfl) ?_
    refine Qyg w.heap.size k (l.length-k) x (.slice (some ⟨cg,0,none⟩) l.length vc) (.slice (some ⟨cg,k*4,none⟩) (l.length-k) (vc-k)) (Qqa (l.drop k)) w1 _ _ rfl (hid (fun W=>QBn W cg l.length vc k hk rL mF)) (hid (fun wx hwx=>Src.ofSlice wx Tryz.underlying29 ⟨cg,k*4,none⟩ (l.length-k) (vc-k) (Qqa (l.drop k)) (by rw[Q4c];simp) (by rw[Qmf];exact Qgq (Qca dE.out hwx (fun _ _ e=>e)) k) (QYf _))) (by omega) rfl rfl rfl HH.out.drew ((Qaa.refl _ w1).drew) ?_
    intro c w2 nB rv Ga h6 hq
    obtain⟨Ht,Hc⟩:=hq
    obtain⟨y6,y21,y22,y23,y24,y25,y26,rfl⟩:=Ga.ex [6,21,22,23,24,25,26] (by kernel_rfl)
    simp only[List.setIfInBounds_toArray,List.set_cons_zero,List.set_cons_succ]at h6 ⊢
    have h6':y6=rv:=h6
    subst h6'
    obtain⟨rg,rc,rfl,Hx,gd⟩:=Ht.form (by omega)
    have jy:=hid Ht
    have GI:=hid Hc
    have GB:=Hc.size
    clear Ht Hc Ga h6
    go_wp2_with (at_builtin;refine wpList_append_grows _ rfl (.tmp 30) (.tmp 31) 29 rfl 39 i0 (.agg #[.int .i64 0,.string ⟨#[]⟩,.string ⟨#[]⟩,.string ⟨#[]⟩]) 4 56 Tryz.underlying29 hi H4 Hp gj rfl (by decide) (some ⟨cg,0,none⟩) k k (Qqa (l.take k)) rfl (by intro h;cases h) ?q0 ?q1 ⟨rg,0,none⟩ (1+(l.length-k)) rc ([.int .i64 x.kind,.string x.path,.string x.name,.string x.value]++Qqa (l.drop k)) rfl ?q2 ?q3 ?q4 ?q5 ?q6 ?q7 ?_)
    case q0=>rw[Q4c];simp <;> omega
    case q1=>intro b Hc;cases Hc;rw[QRd];exact QYk (Qhb dE.out GI.out) _
    case q2=>rw[List.length_append,Q4c];simp <;> omega
    case q3=>exact jy.out.cells (g:=rg) rfl
    case q4=>
     intro u hu
     rcases List.mem_append.1 hu with hu|hu
     ·simp at hu;rcases hu with rfl|rfl|rfl|rfl <;> rfl
     ·exact QYf _ u hu
    case q5=>omega
    case q6=>unfold maxLen;omega
    case q7=>omega
    intro v11 w11 gO H8
    have kA:=GI.out.grown H8 GB (fun q hq=>by cases hq)
    have g9:=Q8b gO (show base≤w2.heap.size by omega)
    rw[show k+(1+(l.length-k))=l.length+1 from by omega]at g9
    clear H8 gO
    obtain⟨va,vc3,rfl⟩:=Qea g9
    go_wp2_with fail
    go_ret
    exact⟨.slice va (l.length+1) vc3,k,hk,rfl,by rw[Qge,QPc];simpa using g9,(HB.out.trans (kA.mono ko))⟩
end Go.Proofs.YtgaboghigefgbaaGreatDoor
