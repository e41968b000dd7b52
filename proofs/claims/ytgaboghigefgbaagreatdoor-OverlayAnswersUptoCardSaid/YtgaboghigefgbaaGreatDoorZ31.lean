/- Lemmas on the way to the law; no conditions. -/
import Derived.Test.YtgaboghigefgbaaGreatDoorZ18
import Derived.Test.YtgaboghigefgbaaGreatDoorZ30
set_option linter.all false
set_option maxRecDepth 100000
set_option maxHeartbeats 8000000
namespace Go.Proofs.YtgaboghigefgbaaGreatDoor
open Go.Proofs.Tryz
open Go.Lib (hid)
open Go.RowKit
noncomputable def Qed:Array Oper:=(QPa (Tryz.f19.body.getD .skip) 1).getD #[]
theorem obR:Q0b .any Qed=true:=by kernel_rfl
theorem QGs:QRb Qed=true:=by kernel_rfl
theorem QEu:Qed.size=9:=by kernel_rfl
def ObF(xb _:Nat)(nm:ByteArray)(sv:Value)(_:List Value)(nB:Nat)(rv:Value)(nZ:Nat)(j:Nat):Value→World→Prop:=match j with
 | 0=>fun u _=>u=.pointer (some ⟨xb,0,none⟩)
 | 1=>fun u _=>u=.string nm
 | 2=>fun u _=>u=.slice (some ⟨nB,0,none⟩) 0 0
 | 3=>fun u _=>u=.pointer (some ⟨xb,1,none⟩)
 | 4=>fun u _=>u=sv
 | 5=>fun u _=>u=rv
 | 6=>fun u _=>u=.agg #[.string nm,rv]
 | 7=>fun u _=>u=.pointer (some ⟨nZ,0,none⟩)
 | _=>fun _ _=>True
def ObC(xb _:Nat)(nm:ByteArray)(sv:Value)(_:List Value)(W w:World):Prop:=Holds w xb #[.string nm,sv] 31∧W.heap.size≤w.heap.size
def ObE(_ m:Nat)(nm:ByteArray)(_:Value)(news:List Value)(nB:Nat)(rv:Value)(nZ:Nat)(W w:World)(l:Array Bool):Prop:=
 if l.getD 2 false=false then(Qaa (fun _=>False) W w)else
 if l.getD 5 false=false then(Qaa (fun _=>False) W w∧w.ownsRow W.heap.size 39 4 (.slice (some ⟨nB,0,none⟩) 0 0) 0 [])else
 if l.getD 8 false=false then(w.ownsRow W.heap.size 39 4 rv m news∧Below W.heap.size W w)else
 w.ownsRow W.heap.size 39 4 rv m news∧Below W.heap.size W w∧W.heap.size≤nZ∧Holds w nZ #[.string nm,rv] 31
section
variable{xb m:Nat}{nm:ByteArray}{sv:Value}{news:List Value}{nB:Nat}{rv:Value}{nZ:Nat}{W w:World}{l:Array Bool}
theorem ObE.other{j:Nat}(h:ObE xb m nm sv news nB rv nZ W w l)(n0:j≠2:=by decide)(n1:j≠5:=by decide)(n2:j≠8:=by decide):ObE xb m nm sv news nB rv nZ W w (l.setIfInBounds j true):=by
 unfold ObE at h ⊢;rw[Qsa n0,Qsa n1,Qsa n2];exact h
theorem ObE.at0(h:ObE xb m nm sv news nB rv nZ W w l)(no:l.getD 2 false=false):Qaa (fun _=>False) W w:=by
 unfold ObE at h;rw[no,if_pos rfl]at h;exact h
theorem ObE.to0(hs:2<l.size)(no:l.getD 5 false=false)(h:Qaa (fun _=>False) W w∧w.ownsRow W.heap.size 39 4 (.slice (some ⟨nB,0,none⟩) 0 0) 0 []):ObE xb m nm sv news nB rv nZ W w (l.setIfInBounds 2 true):=by
 unfold ObE;rw[Qjb hs,if_neg (by simp)];rw[Qsa (show 2≠5 by decide),no,if_pos rfl];exact h
theorem ObE.at1(h:ObE xb m nm sv news nB rv nZ W w l)(y0:l.getD 2 false=true)(no:l.getD 5 false=false):Qaa (fun _=>False) W w∧w.ownsRow W.heap.size 39 4 (.slice (some ⟨nB,0,none⟩) 0 0) 0 []:=by
 unfold ObE at h;rw[y0,if_neg (by simp)]at h;rw[no,if_pos rfl]at h;exact h
theorem ObE.to1(y0:l.getD 2 false=true)(hs:5<l.size)(no:l.getD 8 false=false)(h:w.ownsRow W.heap.size 39 4 rv m news∧Below W.heap.size W w):ObE xb m nm sv news nB rv nZ W w (l.setIfInBounds 5 true):=by
 unfold ObE;rw[Qsa (show 5≠2 by decide),y0,if_neg (by simp)];rw[Qjb hs,if_neg (by simp)];rw[Qsa (show 5≠8 by decide),no,if_pos rfl];exact h
theorem ObE.at2(h:ObE xb m nm sv news nB rv nZ W w l)(y0:l.getD 2 false=true)(y1:l.getD 5 false=true)(no:l.getD 8 false=false):w.ownsRow W.heap.size 39 4 rv m news∧Below W.heap.size W w:=by
 unfold ObE at h;rw[y0,if_neg (by simp)]at h;rw[y1,if_neg (by simp)]at h;rw[no,if_pos rfl]at h;exact h
theorem ObE.to2(y0:l.getD 2 false=true)(y1:l.getD 5 false=true)(hs:8<l.size)(h:w.ownsRow W.heap.size 39 4 rv m news∧Below W.heap.size W w∧W.heap.size≤nZ∧Holds w nZ #[.string nm,rv] 31):ObE xb m nm sv news nB rv nZ W w (l.setIfInBounds 8 true):=by
 unfold ObE;rw[Qsa (show 8≠2 by decide),y0,if_neg (by simp)];rw[Qsa (show 8≠5 by decide),y1,if_neg (by simp)];rw[Qjb hs,if_neg (by simp)];exact h
theorem ObF.ghost0{nB':Nat}{j:Nat}{u:Value}(h:ObF xb m nm sv news nB rv nZ j u w)(n0:j≠2):ObF xb m nm sv news nB' rv nZ j u w:=by
 unfold ObF at *
 split at h
 all_goals first
  | exact h
  | exact absurd rfl n0
theorem ObF.ghost1{rv':Value}{j:Nat}{u:Value}(h:ObF xb m nm sv news nB rv nZ j u w)(n0:j≠5)(n1:j≠6):ObF xb m nm sv news nB rv' nZ j u w:=by
 unfold ObF at *
 split at h
 all_goals first
  | exact h
  | exact absurd rfl n0
  | exact absurd rfl n1
theorem ObF.ghostF{nZ':Nat}{j:Nat}{u:Value}(h:ObF xb m nm sv news nB rv nZ j u w)(n0:j≠7):ObF xb m nm sv news nB rv nZ' j u w:=by
 unfold ObF at *
 split at h
 all_goals first
  | exact h
  | exact absurd rfl n0
theorem ObE.falloc{nZ':Nat}(h:ObE xb m nm sv news nB rv nZ W w l)(no:l.getD 8 false=false):ObE xb m nm sv news nB rv nZ' W (w.alloc (.cells #[.string ⟨#[]⟩,.slice none 0 0] 31)) l:=by
 unfold ObE at h ⊢;by_cases y0:l.getD 2 false=false
 ·rw[if_pos y0]at h ⊢;exact h.alloc _
 rw[if_neg y0]at h ⊢;by_cases y1:l.getD 5 false=false
 ·rw[if_pos y1]at h ⊢;exact⟨h.1.alloc _,World.ownsRow.alloc h.2 _⟩
 rw[if_neg y1]at h ⊢;rw[no,if_pos rfl]at h ⊢;exact⟨World.ownsRow.alloc h.1 _,h.2.alloc h.2.size _⟩
theorem ObF.world{j:Nat}{u:Value}{w':World}(h:ObF xb m nm sv news nB rv nZ j u w):ObF xb m nm sv news nB rv nZ j u w':=by
 unfold ObF at *
 split at h
 all_goals exact h
end
theorem Q9n{Q:Exit→Act→World→Prop}(xb m:Nat)(nm:ByteArray)(sv:Value)(news:List Value)(W w:World)(A:Act)(hsz:A.tmps.size=90)(mo:Hid (∀wx,Qaa (fun _=>False) W wx→Src prog 4 29 sv m news wx))(hm:m≤1000)
 (a3:A.tmps.getD 3 undef=.pointer (some ⟨xb,0,none⟩)) (hC0:ObC xb m nm sv news W w) (hE0:Qaa (fun _=>False) W w)
 (hQ:∀c w' (nB:Nat) (rv:Value) (nZ:Nat),Qpb Qed A c→c.tmps.getD 5 undef=.pointer (some ⟨nZ,0,none⟩)→(w'.ownsRow W.heap.size 39 4 rv m news∧Below W.heap.size W w'∧W.heap.size≤nZ∧Holds w' nZ #[.string nm,rv] 31)→Q .normal c w') :
 wpAny prog .any Qed Q Qed.size (Array.replicate Qed.size false) A w:=by
 refine QNa (fun l c wx=>∃nB rv nZ,Qsb Qed A (ObF xb m nm sv news nB rv nZ) (fun _=>True) l c wx∧(l.getD 8 false=false→ObC xb m nm sv news W wx)∧ObE xb m nm sv news nB rv nZ W wx l∧(l.getD 7 false=true→l.getD 8 false=false→W.heap.size≤nZ∧Holds wx nZ #[.string ⟨#[]⟩,.slice none 0 0] 31)) obR ?hend ?Hk _ _ _ _ (by simp) (by simp) ⟨0,.slice none 0 0,0,Qsb.start trivial,fun _=>hC0,by unfold ObE;rw[if_pos (QXg _ _)];exact hE0,fun a=>absurd a (by rw[QXg];simp)⟩
 case hend=>
  rintro l c wx ⟨nB,rv,nZ,hI,hC,hE,_⟩ hl;have hh:∀k,k<9→l.getD k false=true:=fun k hk=>hl k (by rw[QEu];exact hk);have J8:wx.ownsRow W.heap.size 39 4 rv m news∧Below W.heap.size W wx∧W.heap.size≤nZ∧Holds wx nZ #[.string nm,rv] 31:=by
   unfold ObE at hE;rw[hh 2 (by decide),if_neg (by simp)]at hE;rw[hh 5 (by decide),if_neg (by simp)]at hE;rw[hh 8 (by decide),if_neg (by simp)]at hE;exact hE
  exact hQ c wx nB rv nZ hI.1.1 (hI.fact 7 5 rfl (hh 7 (by decide))) J8
 intro l c wx KV i' op ho hl Ha K' hK';obtain⟨nB,rv,nZ,hI,hC,hE,hF⟩:=KV;have ke:l.size=9:=by rw[hI.1.2.2.1.1,QEu]
 have hi':i'<9:=by rw[←QEu];exact(Array.getElem?_eq_some_iff.1 ho).1
 have Hf:=ho;simp only[Qed,QPa,Tryz.f19,Option.getD_some,reduceIte,Nat.reduceEqDiff]at ho;have s3:=(hI.slot 3 (by kernel_rfl)).trans a3;have fs:=And.intro True.intro True.intro;simp only[Array.getD_eq_getD_getElem?]at s3;have GB:i'=0∨i'=1∨i'=2∨i'=3∨i'=4∨i'=5∨i'=6∨i'=7∨i'=8:=by omega
 clear hi';rcases GB with rfl|rfl|rfl|rfl|rfl|rfl|rfl|rfl|rfl
 all_goals cases ho
 ·go_simp;exact hK' _ _ ⟨nB,rv,nZ,hI.st QGs 0 7 hsz Hf Ha rfl,(fun h=>hC (Qja h)),hE.other,fun a b=>hF (by rwa [Qsa (show 0≠7 by decide)]at a) (by rwa [Qsa (show 0≠8 by decide)]at b)⟩
 ·have f0:c.tmps.getD 7 undef=.pointer (some ⟨xb,0,none⟩):=hI.yf 0 7 9 Hf Ha;have e0:=gE f0;have hc:=hC (hI.1.2.2.1.2.no_far 9 hl (by kernel_rfl:Qzc Qed 9 8 1=true));have x0:=hc.1.cell 0;have xl:=hc.1.lt;go_simp;exact hK' _ _ ⟨nB,rv,nZ,hI.st QGs 1 8 hsz Hf Ha rfl,(fun h=>hC (Qja h)),hE.other,fun a b=>hF (by rwa [Qsa (show 1≠7 by decide)]at a) (by rwa [Qsa (show 1≠8 by decide)]at b)⟩
 ·have hc:=hC (hI.1.2.2.1.2.no_far 9 hl (by kernel_rfl:Qzc Qed 9 8 2=true));have hp:=hE.at0 hl;have un:=hI.1.2.2.1.2.no_far 9 hl (by kernel_rfl:Qzc Qed 9 5 2=true);have uw:=hF;have Kj:Qaa (fun _=>False) W (wx.alloc (.cells #[] 39))∧(wx.alloc (.cells #[] 39)).ownsRow W.heap.size 39 4 (.slice (some ⟨wx.heap.size,0,none⟩) 0 0) 0 []:=⟨hp.alloc _,Qub rfl hp.size⟩;have gh:ObC xb m nm sv news W (wx.alloc (.cells #[] 39)):=⟨Holds.alloc hc.1 _,Nat.le_trans hc.2 (by simp)⟩;have uz:W.heap.size≤nZ∧Holds wx nZ #[.string ⟨#[]⟩,.slice none 0 0] 31→W.heap.size≤nZ∧Holds (wx.alloc (.cells #[] 39)) nZ #[.string ⟨#[]⟩,.slice none 0 0] 31:=fun h=>⟨h.1,h.2.alloc _⟩;go_simp;have hJ:Qsb Qed A (ObF xb m nm sv news (wx.heap.size) rv nZ) (fun _=>True) l c wx:=⟨hI.1.other (fun j hj u hF=>ObF.ghost0 hF (Q1a hj hl)),hI.2⟩;exact hK' _ _ ⟨wx.heap.size,_,_,hJ.step QGs 2 9 rfl (by rw[hsz];decide) _ _ Hf Ha trivial (fun _ _ h=>ObF.world h) rfl,fun _=>gh,ObE.to0 (by rw[ke];decide) un Kj,fun a b=>uz (uw (by rwa [Qsa (show 2≠7 by decide)]at a) (by rwa [Qsa (show 2≠8 by decide)]at b))⟩
 ·go_simp;exact hK' _ _ ⟨nB,rv,nZ,hI.st QGs 3 10 hsz Hf Ha rfl,(fun h=>hC (Qja h)),hE.other,fun a b=>hF (by rwa [Qsa (show 3≠7 by decide)]at a) (by rwa [Qsa (show 3≠8 by decide)]at b)⟩
 ·have f3:c.tmps.getD 10 undef=.pointer (some ⟨xb,1,none⟩):=hI.yf 3 10 9 Hf Ha;have e3:=gE f3;have hc:=hC (hI.1.2.2.1.2.no_far 9 hl (by kernel_rfl:Qzc Qed 9 8 4=true));have x1:=hc.1.cell 1;have xl:=hc.1.lt;go_simp;exact hK' _ _ ⟨nB,rv,nZ,hI.st QGs 4 11 hsz Hf Ha rfl,(fun h=>hC (Qja h)),hE.other,fun a b=>hF (by rwa [Qsa (show 4≠7 by decide)]at a) (by rwa [Qsa (show 4≠8 by decide)]at b)⟩
 ·have f2:c.tmps.getD 9 undef=.slice (some ⟨nB,0,none⟩) 0 0:=hI.yf 2 9 9 Hf Ha;have e2:=gE f2;have f4:c.tmps.getD 11 undef=sv:=hI.yf 4 11 9 Hf Ha;have e4:=gE f4;have hc:=hC (hI.1.2.2.1.2.no_far 9 hl (by kernel_rfl:Qzc Qed 9 8 5=true));have y0:l.getD 2 false=true:=hI.1.2.2.1.2.yes_far 9 Hf Ha (by decide) (by kernel_rfl);have hp:=hE.at1 y0 hl;have un:=hI.1.2.2.1.2.no_far 9 hl (by kernel_rfl:Qzc Qed 9 8 5=true);have uw:=hF;obtain⟨KH,rr⟩:=hp;obtain⟨i1,hi,Hz,Ho,H4⟩:=info_parts QXf;refine Qxc wx rfl (.tmp 9) (.tmp 11) 29 29 rfl W.heap.size 39 i1 _ 4 56 underlying29 hi Hz Ho H4 rfl (.slice (some ⟨nB,0,none⟩) 0 0) 0 [] (by exact f2) rr sv (by exact f4) m news (mo.o wx KH) (by unfold maxLen;omega) (by omega) KH.size ?_;intro v3 w2 Hi Hd gj;rw[Nat.zero_add,List.nil_append]at Hi;have kg:Qaa (fun b=>W.heap.size≤b) wx w2:=Qaa.of_grown Hd (fun i e=>(rr.lt i e).1);have jm:Below W.heap.size W w2:=Qaa.below (S:=fun b=>W.heap.size≤b) ((KH.mono (fun _ _ e=>e.elim)).trans kg (fun _ _ e=>e)) (Nat.le_refl _) (fun i hi e=>by omega);have Kj:w2.ownsRow W.heap.size 39 4 v3 m news∧Below W.heap.size W w2:=⟨Hi,jm⟩;have gh:ObC xb m nm sv news W w2:=⟨Holds.grown hc.1 Hd (Qla rr hc.1 (by decide)),jm.size⟩;have uz:W.heap.size≤nZ∧Holds wx nZ #[.string ⟨#[]⟩,.slice none 0 0] 31→W.heap.size≤nZ∧Holds w2 nZ #[.string ⟨#[]⟩,.slice none 0 0] 31:=fun h=>⟨h.1,h.2.grown Hd (Qla rr h.2 (by decide))⟩;have u6:=hI.1.2.2.1.2.no_far 9 hl (by kernel_rfl:Qzc Qed 9 6 5=true);have hJ:Qsb Qed A (ObF xb m nm sv news nB (v3) nZ) (fun _=>True) l c wx:=⟨hI.1.other (fun j hj u hF=>ObF.ghost1 hF (Q1a hj hl) (Q1a hj u6)),hI.2⟩
  exact hK' _ _ ⟨_,v3,_,hJ.step QGs 5 12 rfl (by rw[hsz];decide) _ _ Hf Ha trivial (fun _ _ h=>ObF.world h) rfl,fun _=>gh,ObE.to1 y0 (by rw[ke];decide) un Kj,fun a b=>uz (uw (by rwa [Qsa (show 5≠7 by decide)]at a) (by rwa [Qsa (show 5≠8 by decide)]at b))⟩
 ·have f1:c.tmps.getD 8 undef=.string nm:=hI.yf 1 8 9 Hf Ha;have e1:=gE f1;have f5:c.tmps.getD 12 undef=rv:=hI.yf 5 12 9 Hf Ha;have e5:=gE f5;have y0:l.getD 2 false=true:=hI.1.2.2.1.2.yes_far 9 Hf Ha (by decide) (by kernel_rfl);have y1:l.getD 5 false=true:=hI.1.2.2.1.2.yes_far 9 Hf Ha (by decide) (by kernel_rfl);obtain⟨a2,c2,bW⟩:=Qea (hE.at2 y0 y1 (hI.1.2.2.1.2.no_far 9 hl (by kernel_rfl:Qzc Qed 9 8 6=true))).1;rw[bW]at e5;go_simp;rw[←bW];exact hK' _ _ ⟨nB,rv,nZ,hI.st QGs 6 13 hsz Hf Ha rfl,(fun h=>hC (Qja h)),hE.other,fun a b=>hF (by rwa [Qsa (show 6≠7 by decide)]at a) (by rwa [Qsa (show 6≠8 by decide)]at b)⟩
 ·have un:=hI.1.2.2.1.2.no_far 9 hl (by kernel_rfl:Qzc Qed 9 8 7=true);go_simp;have hJ:Qsb Qed A (ObF xb m nm sv news nB rv (wx.heap.size)) (fun _=>True) l c wx:=⟨hI.1.other (fun j hj u hF=>ObF.ghostF hF (Q1a hj hl)),hI.2⟩;exact hK' _ _ ⟨_,_,_,hJ.step QGs 7 5 rfl (by rw[hsz];decide) _ _ Hf Ha trivial (fun _ _ h=>ObF.world h) rfl,(fun h=>⟨Holds.alloc (hC (Qja h)).1 _,Nat.le_trans (hC (Qja h)).2 (by simp)⟩),(hE.falloc un).other (by decide) (by decide) (by decide),fun _ _=>⟨(hC un).2,Holds.new _ _ _⟩⟩
 have f6:c.tmps.getD 13 undef=.agg #[.string nm,rv]:=hI.yf 6 13 9 Hf Ha;have e6:=gE f6;have f7:c.tmps.getD 5 undef=.pointer (some ⟨nZ,0,none⟩):=hI.yf 7 5 9 Hf Ha;have e7:=gE f7;have hc:=hC (hI.1.2.2.1.2.no_far 9 hl (by kernel_rfl:Qzc Qed 9 8 8=true));have y0:l.getD 2 false=true:=hI.1.2.2.1.2.yes_far 9 Hf Ha (by decide) (by kernel_rfl);have y1:l.getD 5 false=true:=hI.1.2.2.1.2.yes_far 9 Hf Ha (by decide) (by kernel_rfl);have hp:=hE.at2 y0 y1 hl;have hf:=hF (hI.1.2.2.1.2.yes_far 9 Hf Ha (by decide) (by kernel_rfl)) hl;obtain⟨a2,c2,bW⟩:=Qea hp.1;subst bW;have x0:=hf.2.cell 0;have x1:=hf.2.cell 1;have xf0:=hf.2.free 0;have xf1:=hf.2.free 1;have xl:=hf.2.lt;have Kj:((wx.setCell ⟨nZ,0,none⟩ (.string nm)).setCell ⟨nZ,1,none⟩ (.slice a2 m c2)).ownsRow W.heap.size 39 4 (.slice a2 m c2) m news∧Below W.heap.size W ((wx.setCell ⟨nZ,0,none⟩ (.string nm)).setCell ⟨nZ,1,none⟩ (.slice a2 m c2))∧W.heap.size≤nZ∧Holds ((wx.setCell ⟨nZ,0,none⟩ (.string nm)).setCell ⟨nZ,1,none⟩ (.slice a2 m c2)) nZ #[.string nm,.slice a2 m c2] 31:=⟨Qvc (Qvc hp.1 hf.2 (by decide) 0 _) (hf.2.set 0 _) (by decide) 1 _,(hp.2.setCell (by simpa using hf.1) _).setCell (by simpa using hf.1) _,hf.1,(hf.2.set 0 _).set 1 _⟩;go_simp;exact hK' _ _ ⟨_,_,_,hI.stepN 8 rfl _ Hf Ha trivial (fun _ _ h=>ObF.world h) trivial,fun h=>absurd h (by rw[Qjb (by rw[ke];decide)];simp),ObE.to2 y0 y1 (by rw[ke];decide) Kj,fun _ b=>absurd b (by rw[Qjb (by rw[ke];decide)];simp)⟩
noncomputable def Q9d:Array Oper:=(QPa (Tryz.f35.body.getD .skip) 4).getD #[]
theorem ouR:Q0b .any Q9d=true:=by kernel_rfl
theorem Qst:QRb Q9d=true:=by kernel_rfl
theorem QNu:Q9d.size=7:=by kernel_rfl
def OuF(_ k _:Nat)(x:Qga)(lv sv:Value)(_:List Value)(nB:Nat)(rv:Value)(j:Nat):Value→World→Prop:=match j with
 | 0=>fun u _=>u=.agg #[.int .i64 x.kind,.string x.path,.string x.name,.string x.value]
 | 1=>fun u _=>u=.slice (some ⟨nB,0,none⟩) 1 1
 | 2=>fun u _=>u=lv
 | 3=>fun u _=>u=.int .i64 (k:Int)
 | 4=>fun u _=>u=sv
 | 5=>fun u _=>u=rv
 | 6=>fun u _=>u=rv
 | _=>fun _ _=>True
def OuC(bb _ _:Nat)(x:Qga)(_ _:Value)(_:List Value)(_ w:World):Prop:=Holds w bb #[.int .i64 x.kind,.string x.path,.string x.name,.string x.value] 39
def OuE(_ _ m:Nat)(x:Qga)(_ _:Value)(news:List Value)(nB:Nat)(rv:Value)(W w:World)(l:Array Bool):Prop:=
 if l.getD 1 false=false then(Qaa (fun _=>False) W w)else
 if l.getD 5 false=false then(Qaa (fun _=>False) W w∧Holds w nB #[.int .i64 x.kind,.string x.path,.string x.name,.string x.value] 39∧W.heap.size≤nB)else
 w.ownsRow W.heap.size 39 4 rv (1+m) ([.int .i64 x.kind,.string x.path,.string x.name,.string x.value]++news)∧Below W.heap.size W w
section
variable{bb k m:Nat}{x:Qga}{lv sv:Value}{news:List Value}{nB:Nat}{rv:Value}{W w:World}{l:Array Bool}
theorem OuE.other{j:Nat}(h:OuE bb k m x lv sv news nB rv W w l)(n0:j≠1:=by decide)(n1:j≠5:=by decide):OuE bb k m x lv sv news nB rv W w (l.setIfInBounds j true):=by
 unfold OuE at h ⊢;rw[Qsa n0,Qsa n1];exact h
theorem OuE.at0(h:OuE bb k m x lv sv news nB rv W w l)(no:l.getD 1 false=false):Qaa (fun _=>False) W w:=by
 unfold OuE at h;rw[no,if_pos rfl]at h;exact h
theorem OuE.to0(hs:1<l.size)(no:l.getD 5 false=false)(h:Qaa (fun _=>False) W w∧Holds w nB #[.int .i64 x.kind,.string x.path,.string x.name,.string x.value] 39∧W.heap.size≤nB):OuE bb k m x lv sv news nB rv W w (l.setIfInBounds 1 true):=by
 unfold OuE;rw[Qjb hs,if_neg (by simp)];rw[Qsa (show 1≠5 by decide),no,if_pos rfl];exact h
theorem OuE.at1(h:OuE bb k m x lv sv news nB rv W w l)(y0:l.getD 1 false=true)(no:l.getD 5 false=false):Qaa (fun _=>False) W w∧Holds w nB #[.int .i64 x.kind,.string x.path,.string x.name,.string x.value] 39∧W.heap.size≤nB:=by
 unfold OuE at h;rw[y0,if_neg (by simp)]at h;rw[no,if_pos rfl]at h;exact h
theorem OuE.to1(y0:l.getD 1 false=true)(hs:5<l.size)(h:w.ownsRow W.heap.size 39 4 rv (1+m) ([.int .i64 x.kind,.string x.path,.string x.name,.string x.value]++news)∧Below W.heap.size W w):OuE bb k m x lv sv news nB rv W w (l.setIfInBounds 5 true):=by
 unfold OuE;rw[Qsa (show 5≠1 by decide),y0,if_neg (by simp)];rw[Qjb hs,if_neg (by simp)];exact h
theorem OuF.ghost0{nB':Nat}{j:Nat}{u:Value}(h:OuF bb k m x lv sv news nB rv j u w)(n0:j≠1):OuF bb k m x lv sv news nB' rv j u w:=by
 unfold OuF at *
 split at h
 all_goals first
  | exact h
  | exact absurd rfl n0
theorem OuF.ghost1{rv':Value}{j:Nat}{u:Value}(h:OuF bb k m x lv sv news nB rv j u w)(n0:j≠5)(n1:j≠6):OuF bb k m x lv sv news nB rv' j u w:=by
 unfold OuF at *
 split at h
 all_goals first
  | exact h
  | exact absurd rfl n0
  | exact absurd rfl n1
theorem OuF.world{j:Nat}{u:Value}{w':World}(h:OuF bb k m x lv sv news nB rv j u w):OuF bb k m x lv sv news nB rv j u w':=by
 unfold OuF at *
 split at h
 all_goals exact h
end
theorem Qtg{Q:Exit→Act→World→Prop}(bb k m:Nat)(x:Qga)(lv sv:Value)(news:List Value)(W w:World)(A:Act)(hsz:A.tmps.size=33)(qd:Hid (∀W:World,(Instr.slice 29 lv (some (.int .i64 (k:Int))) none none).run prog W=.ok sv W))(mo:Hid (∀wx,Qaa (fun _=>False) W wx→Src prog 4 29 sv m news wx))(hm:m≤1000)
 (a0:A.tmps.getD 0 undef=lv) (a3:A.tmps.getD 3 undef=.pointer (some ⟨bb,0,none⟩)) (a5:A.tmps.getD 5 undef=.int .i64 (k:Int)) (hC0:OuC bb k m x lv sv news W w) (hE0:Qaa (fun _=>False) W w)
 (hQ:∀c w' (nB:Nat) (rv:Value),Qpb Q9d A c→c.tmps.getD 6 undef=rv→(w'.ownsRow W.heap.size 39 4 rv (1+m) ([.int .i64 x.kind,.string x.path,.string x.name,.string x.value]++news)∧Below W.heap.size W w')→Q .normal c w') :
 wpAny prog .any Q9d Q Q9d.size (Array.replicate Q9d.size false) A w:=by
 refine QNa (fun l c wx=>∃nB rv,Qsb Q9d A (OuF bb k m x lv sv news nB rv) (fun _=>True) l c wx∧(l.getD 5 false=false→OuC bb k m x lv sv news W wx)∧OuE bb k m x lv sv news nB rv W wx l) ouR ?hend ?Hk _ _ _ _ (by simp) (by simp) ⟨0,.slice none 0 0,Qsb.start trivial,fun _=>hC0,by unfold OuE;rw[if_pos (QXg _ _)];exact hE0⟩
 case hend=>
  rintro l c wx ⟨nB,rv,hI,hC,hE⟩ hl;have hh:∀k,k<7→l.getD k false=true:=fun k hk=>hl k (by rw[QNu];exact hk);have J8:wx.ownsRow W.heap.size 39 4 rv (1+m) ([.int .i64 x.kind,.string x.path,.string x.name,.string x.value]++news)∧Below W.heap.size W wx:=by
   unfold OuE at hE;rw[hh 1 (by decide),if_neg (by simp)]at hE;rw[hh 5 (by decide),if_neg (by simp)]at hE;exact hE
  exact hQ c wx nB rv hI.1.1 (hI.fact 6 6 rfl (hh 6 (by decide))) J8
 intro l c wx KV i' op ho hl Ha K' hK';obtain⟨nB,rv,hI,hC,hE⟩:=KV;have ke:l.size=7:=by rw[hI.1.2.2.1.1,QNu]
 have hi':i'<7:=by rw[←QNu];exact(Array.getElem?_eq_some_iff.1 ho).1
 have Hf:=ho;simp only[Q9d,QPa,Tryz.f35,Option.getD_some,reduceIte,Nat.reduceEqDiff]at ho;have s0:=(hI.slot 0 (by kernel_rfl)).trans a0;have s3:=(hI.slot 3 (by kernel_rfl)).trans a3;have s5:=(hI.slot 5 (by kernel_rfl)).trans a5;have fs:=And.intro True.intro True.intro;simp only[Array.getD_eq_getD_getElem?]at s0 s3 s5;have GB:i'=0∨i'=1∨i'=2∨i'=3∨i'=4∨i'=5∨i'=6:=by omega
 clear hi';rcases GB with rfl|rfl|rfl|rfl|rfl|rfl|rfl
 all_goals cases ho
 ·have hc:=hC (hI.1.2.2.1.2.no_far 7 hl (by kernel_rfl:Qzc Q9d 7 5 0=true));have x0:=hc.cell 0;have x1:=hc.cell 1;have x2:=hc.cell 2;have x3:=hc.cell 3;have xl:=hc.lt;go_simp;exact hK' _ _ ⟨nB,rv,hI.st Qst 0 21 hsz Hf Ha rfl,(fun h=>hC (Qja h)),hE.other⟩
 ·have f0:c.tmps.getD 21 undef=.agg #[.int .i64 x.kind,.string x.path,.string x.name,.string x.value]:=hI.yf 0 21 7 Hf Ha;have e0:=gE f0;have hc:=hC (hI.1.2.2.1.2.no_far 7 hl (by kernel_rfl:Qzc Q9d 7 5 1=true));have hp:=hE.at0 hl;have un:=hI.1.2.2.1.2.no_far 7 hl (by kernel_rfl:Qzc Q9d 7 5 1=true);have Kj:Qaa (fun _=>False) W (wx.alloc (.cells #[.int .i64 x.kind,.string x.path,.string x.name,.string x.value] 39))∧Holds (wx.alloc (.cells #[.int .i64 x.kind,.string x.path,.string x.name,.string x.value] 39)) wx.heap.size #[.int .i64 x.kind,.string x.path,.string x.name,.string x.value] 39∧W.heap.size≤wx.heap.size:=⟨hp.alloc _,Holds.new _ _ _,hp.size⟩;have gh:OuC bb k m x lv sv news W (wx.alloc (.cells #[.int .i64 x.kind,.string x.path,.string x.name,.string x.value] 39)):=Holds.alloc hc _;go_simp;have hJ:Qsb Q9d A (OuF bb k m x lv sv news (wx.heap.size) rv) (fun _=>True) l c wx:=⟨hI.1.other (fun j hj u hF=>OuF.ghost0 hF (Q1a hj hl)),hI.2⟩;exact hK' _ _ ⟨wx.heap.size,_,hJ.step Qst 1 22 rfl (by rw[hsz];decide) _ _ Hf Ha trivial (fun _ _ h=>OuF.world h) rfl,fun _=>gh,OuE.to0 (by rw[ke];decide) un Kj⟩
 ·go_simp;exact hK' _ _ ⟨nB,rv,hI.st Qst 2 23 hsz Hf Ha rfl,(fun h=>hC (Qja h)),hE.other⟩
 ·go_simp;exact hK' _ _ ⟨nB,rv,hI.st Qst 3 24 hsz Hf Ha rfl,(fun h=>hC (Qja h)),hE.other⟩
 ·have f2:c.tmps.getD 23 undef=lv:=hI.yf 2 23 7 Hf Ha;have e2:=gE f2;have f3:c.tmps.getD 24 undef=.int .i64 (k:Int):=hI.yf 3 24 7 Hf Ha;have e3:=gE f3;have kw:=qd.o;go_simp;exact hK' _ _ ⟨nB,rv,hI.st Qst 4 25 hsz Hf Ha rfl,(fun h=>hC (Qja h)),hE.other⟩
 ·have f1:c.tmps.getD 22 undef=.slice (some ⟨nB,0,none⟩) 1 1:=hI.yf 1 22 7 Hf Ha;have e1:=gE f1;have f4:c.tmps.getD 25 undef=sv:=hI.yf 4 25 7 Hf Ha;have e4:=gE f4;have hc:=hC (hI.1.2.2.1.2.no_far 7 hl (by kernel_rfl:Qzc Q9d 7 5 5=true));have y0:l.getD 1 false=true:=hI.1.2.2.1.2.yes_far 7 Hf Ha (by decide) (by kernel_rfl);have hp:=hE.at1 y0 hl;obtain⟨KH,iw,rq⟩:=hp;obtain⟨i1,hi,Hz,Ho,H4⟩:=info_parts QXf;refine Qxc wx rfl (.tmp 22) (.tmp 25) 29 29 rfl W.heap.size 39 i1 _ 4 56 underlying29 hi Hz Ho H4 rfl (.slice (some ⟨nB,0,none⟩) 1 1) 1 [.int .i64 x.kind,.string x.path,.string x.name,.string x.value] (by exact f1) ⟨rfl,.inr ⟨nB,1,#[.int .i64 x.kind,.string x.path,.string x.name,.string x.value],rfl,rq,iw,Nat.le_refl _,by unfold maxLen;omega,rfl,rfl⟩⟩ sv (by exact f4) m news (mo.o wx KH) (by unfold maxLen;omega) (by omega) KH.size ?_;intro v3 w2 Hi Hd gj;have kg:Qaa (fun b=>W.heap.size≤b) wx w2:=Qaa.of_grown Hd (fun i e=>by cases e;exact rq);have jm:Below W.heap.size W w2:=Qaa.below (S:=fun b=>W.heap.size≤b) ((KH.mono (fun _ _ e=>e.elim)).trans kg (fun _ _ e=>e)) (Nat.le_refl _) (fun i hi e=>by omega);have Kj:w2.ownsRow W.heap.size 39 4 v3 (1+m) ([.int .i64 x.kind,.string x.path,.string x.name,.string x.value]++news)∧Below W.heap.size W w2:=⟨Hi,jm⟩;have u6:=hI.1.2.2.1.2.no_far 7 hl (by kernel_rfl:Qzc Q9d 7 6 5=true);have hJ:Qsb Q9d A (OuF bb k m x lv sv news nB (v3)) (fun _=>True) l c wx:=⟨hI.1.other (fun j hj u hF=>OuF.ghost1 hF (Q1a hj hl) (Q1a hj u6)),hI.2⟩;exact hK' _ _ ⟨_,v3,hJ.step Qst 5 26 rfl (by rw[hsz];decide) _ _ Hf Ha trivial (fun _ _ h=>OuF.world h) rfl,fun h=>absurd h (by rw[Qjb (by rw[ke];decide)];simp),OuE.to1 y0 (by rw[ke];decide) Kj⟩
 have f5:c.tmps.getD 26 undef=rv:=hI.yf 5 26 7 Hf Ha;have e5:=gE f5;go_simp;exact hK' _ _ ⟨nB,rv,hI.st Qst 6 6 hsz Hf Ha rfl,(fun h=>hC (Qja h)),hE.other⟩
theorem QAk:∀w:World,(Go.sizeOf 39).run prog w=.ok 4 w:=fun w=>by kernel_rfl
theorem QHn(W:World)(g len cap l:Nat)(h:l≤len)(hc:len≤cap)(hl:l<cap) :
 (Instr.slice 29 (.slice (some ⟨g,0,none⟩) len cap) (some (.int .i64 (l:Int))) none none).run prog W=.ok (.slice (some ⟨g,l*4,none⟩) (len-l) (cap-l)) W:=by
 have ht':prog.underlying 29=some (.slice (prog.elem 29)):=by kernel_rfl
 rw[run_slice_l W _ _ _ _ ht' .i64 _ (by omega) (by omega),show prog.elem 29=39 by kernel_rfl,QAk];have Hl:¬cap=l:=by omega
 by_cases h0:l=0
 ·subst h0;simp[Result.andThen,sliced,Addr.add,Hl]
 simp[Result.andThen,sliced,Addr.add,Hl,h0];omega
theorem Qsp(W:World)(g len:Nat) :
 (Instr.slice 29 (.slice (some ⟨g,0,none⟩) len len) (some (.int .i64 (len:Int))) none none).run prog W=.ok (.slice (some ⟨g,0,none⟩) 0 0) W:=by
 have ht':prog.underlying 29=some (.slice (prog.elem 29)):=by kernel_rfl
 rw[run_slice_l W _ _ _ _ ht' .i64 _ (by omega) (by omega),show prog.elem 29=39 by kernel_rfl,QAk];simp[Result.andThen,sliced]
theorem Qyt(base:Nat)(v:Value)(l:List Qga)(x:Qga)(w:World)(h:w.ownsRow base 39 4 v l.length (Qha l))(hnil:l=[]→v=.slice none 0 0)(hb:base≤w.heap.size)(hl:l.length≤1000) :
 Calls prog 35 #[v,.agg #[.int .i64 x.kind,.string x.path,.string x.name,.string x.value]] w fun e w'=>∃(v':Value) (k:Nat),k≤l.length∧e=.returned v'∧w'.ownsRow base 39 4 v' (l.length+1) (Qha (l.take k++x::l.drop k))∧Below w.heap.size w w':=by
 have Mo:=Q8c h;obtain⟨va,vc,rfl⟩:=Qea h;have GS:=hid h;have j3:=hid hnil;have Mj:=hid Mo;have kj:=Holds.new w #[.int .i64 x.kind,.string x.path,.string x.name,.string x.value] 39;have He:Below w.heap.size w (w.alloc (.cells #[.int .i64 x.kind,.string x.path,.string x.name,.string x.value] 39)):=Bq;have gK:=hid kj;have lY:=hid He;clear h hnil Mo kj He;go_enter func35,ntmps35;go_upto_block 0 with fail;go_cut [5] (fun y wx=>∃k:Nat,k≤l.length∧y=.int .i64 k∧Hid (Below w.heap.size w wx)∧Hid (Holds wx w.heap.size #[.int .i64 x.kind,.string x.path,.string x.name,.string x.value] 39))
 case first=>
  go_wp2_with fail;go_loopg [5] (l.length) (fun f y wr=>∃k:Nat,y=.int .i64 k∧k≤l.length∧l.length≤k+f∧Hid (Below w.heap.size w wr)∧Hid (Holds wr w.heap.size #[.int .i64 x.kind,.string x.path,.string x.name,.string x.value] 39))
  case atStart=>exact⟨0,rfl,by omega,by omega,lY,gK⟩
  case round=>
   obtain⟨k,rfl,hk,hf,HB,HH⟩:=hrel;by_cases Hh:k<l.length
   ·have pb:(k:Int)<(l.length:Int):=by omega
    obtain⟨a',c',e',_,_,h3⟩:=Mj.o.new HB.o;simp only[Value.slice.injEq]at e';obtain⟨rfl,-,rfl⟩:=e';obtain⟨g,o,rfl,hg,Hw⟩:=h3 (by omega);obtain⟨d0,d1,d2,d3⟩:=Hw k Hh;have iO:=hid (Q4i l[k] x);have c0:=HH.o.cell 0;have c1:=HH.o.cell 1;have c2:=HH.o.cell 2;have c3:=HH.o.cell 3;have cl:=HH.o.lt;clear Hw h3;generalize l[k]=y at *
    have hq:ltE y x=true∨ltE y x=false:=by cases ltE y x <;> simp
    generalize ltE y x=q at *
    go_wp2_with fail
    go_region_with (go_at_call 56;refine(iO.o _).mono ?_;rintro e w3 ⟨rfl,Hg⟩)
    all_goals
     have aQ:Below wr.heap.size wr wr.drew:=(Below.refl _ _).drew;have Hu:=aQ.trans Hg;have mN:=hid (HB.o.trans (Hu.mono HB.o.size));have wg:=hid (HH.o.fr Hu);clear aQ Hg Hu d0 d1 d2 d3 c0 c1 c2 c3 cl;rcases hq with rfl|rfl
     ·go_wp2_with fail;go_roundg (gk-1)
      case measure=>omega
      case rel=>exact⟨k+1,by go_num,by omega,by omega,mN,wg⟩
     go_wp2_with fail;go_meet;exact⟨k,hk,rfl,mN,wg⟩
   have pb:¬(k:Int)<(l.length:Int):=by omega
   go_wp2_with fail;go_quiet(fail);go_wp2_with fail;go_meet;exact⟨k,hk,rfl,hid (HB.o.trans (Qaa.below (S:=fun _=>False) ((Qaa.refl _ _).drewN _) HB.o.size (fun _ _ e=>e))),hid (HH.o.drewN _)⟩
 case rest=>
  obtain⟨k,hk,rfl,HB,HH⟩:=hcut;obtain⟨w1,rfl⟩:∃y:World,y=wc:=⟨_,rfl⟩;have h1:=Qbb GS.o HB.o;have Gn:=HB.o.size;have c0:=HH.o.cell 0;have c1:=HH.o.cell 1;have c2:=HH.o.cell 2;have c3:=HH.o.cell 3;have cl:=HH.o.lt;obtain⟨i0,hi,Hz,Ho,H4⟩:=info_parts QXf;clear GS Mj lY gK;by_cases hl0:l=[]
  ·have Mf:=j3.o hl0;subst hl0;cases Mf;obtain rfl:k=0:=by simpa using hk
   go_upto_region 4 with fail;refine wp_region_any (by kernel_rfl) ?_;refine QUa (ops':=Q9d) (by kernel_rfl) ?_;refine Qtg w.heap.size 0 0 x (.slice none 0 0) (.slice none 0 0) [] w1 _ _ rfl (hid (fun W=>by kernel_rfl)) (hid (fun wx _=>Src.ofNil wx underlying29 0)) (by omega) rfl rfl rfl HH.o.drew ((Qaa.refl _ w1).drew) ?_;intro c w2 nB rv gI h6 hq;obtain⟨H7,Hc⟩:=hq;obtain⟨y6,y21,y22,y23,y24,y25,y26,rfl⟩:=gI.ex [6,21,22,23,24,25,26] (by kernel_rfl);simp only[List.setIfInBounds_toArray,List.set_cons_zero,List.set_cons_succ]at h6 ⊢;have h6':y6=rv:=h6;subst h6';obtain⟨rg,rc,rfl,gi,Gz⟩:=H7.form (by omega);have KK:=hid H7;have gF:=hid Hc;have Gx:=Hc.size;clear H7 Hc gI h6;go_wp2_with(at_builtin;refine wpList_append_own _ rfl (.tmp 30) (.tmp 31) 29 rfl w1.heap.size 39 i0 (.agg #[.int .i64 0,.string ⟨#[]⟩,.string ⟨#[]⟩,.string ⟨#[]⟩]) 4 56 underlying29 hi Hz Ho H4 rfl (by decide) (.slice none 0 0) 0 [] rfl (World.ownsRow_nil _ _ _ _) ⟨rg,0,none⟩ (1+0) rc ([.int .i64 x.kind,.string x.path,.string x.name,.string x.value]++[]) rfl rfl ?c1 ?c2 ?c3 ?c4 ?c5 ?_)
   case c1=>
    intro j u hu;have h5:=KK.o.cells (g:=rg) rfl j u (by simpa using hu);rw[Addr.add_lit]at h5;simpa using h5
   case c2=>exact⟨rfl,rfl,rfl,rfl⟩
   case c3=>unfold maxLen;omega
   intro v11 w11 gQ H8 _;have mb:=gF.o.grown H8 Gx (fun q hq=>by simp[Value.ownBlock]at hq);have gZ:=Q1b gQ (show base≤w1.heap.size by omega);clear H8 gQ;obtain⟨va,vc3,rfl⟩:=Qea gZ;go_wp2_with fail;go_ret;exact⟨.slice va (0+(1+0)) vc3,0,Nat.le_refl _,rfl,gZ,HB.o.trans (mb.mono Gn)⟩
  obtain⟨cg,cc,Mf,oO,ib⟩:∃cg cc,(.slice va l.length vc:Value)=.slice (some ⟨cg,0,none⟩) l.length cc∧l.length≤cc∧cc≤maxLen:=by
   rcases h1.2 with⟨_,h0⟩|⟨g',cp,cur,e,_,_,q1,q2,_⟩
   ·exact absurd (List.length_eq_zero_iff.1 h0) hl0
   exact⟨g',cp,e,q1,q2⟩
  cases Mf;unfold maxLen at ib;clear hl0;have JZ:=hid h1;clear h1;by_cases kU:vc=k
  ·obtain rfl:k=l.length:=by omega
   subst kU;go_upto_region 4 with fail;refine wp_region_any (by kernel_rfl) ?_;refine QUa (ops':=Q9d) (by kernel_rfl) ?_;refine Qtg w.heap.size l.length 0 x (.slice (some ⟨cg,0,none⟩) l.length l.length) (.slice (some ⟨cg,0,none⟩) 0 0) [] w1 _ _ rfl (hid (fun W=>Qsp W cg l.length)) (hid (fun wx _=>Src.ofSlice wx underlying29 ⟨cg,0,none⟩ 0 0 [] rfl (fun j u hu=>by simp at hu) (fun u hu=>by cases hu))) (by omega) rfl rfl rfl HH.o.drew ((Qaa.refl _ w1).drew) ?_;intro c w2 nB rv gI h6 hq;obtain⟨H7,Hc⟩:=hq;obtain⟨y6,y21,y22,y23,y24,y25,y26,rfl⟩:=gI.ex [6,21,22,23,24,25,26] (by kernel_rfl);simp only[List.setIfInBounds_toArray,List.set_cons_zero,List.set_cons_succ]at h6 ⊢;have h6':y6=rv:=h6;subst h6';obtain⟨rg,rc,rfl,gi,Gz⟩:=H7.form (by omega);have KK:=hid H7;have gF:=hid Hc;have Gx:=Hc.size;clear H7 Hc gI h6;go_wp2_with(at_builtin;refine wpList_append_grows _ rfl (.tmp 30) (.tmp 31) 29 rfl 39 i0 (.agg #[.int .i64 0,.string ⟨#[]⟩,.string ⟨#[]⟩,.string ⟨#[]⟩]) 4 56 underlying29 hi Hz Ho H4 rfl (by decide) (some ⟨cg,0,none⟩) l.length l.length (Qha (l.take l.length)) rfl (by intro h;cases h) ?q0 ?q1 ⟨rg,0,none⟩ (1+0) rc ([.int .i64 x.kind,.string x.path,.string x.name,.string x.value]++[]) rfl ?q2 ?q3 ?q4 ?q5 ?q6 ?q7 ?_)
   case q0=>rw[Q9b];simp <;> omega
   case q1=>intro b Hc;cases Hc;rw[QGd];exact Qbl (Qbb JZ.o gF.o) _
   case q2=>rw[List.length_append,List.length_nil];simp <;> omega
   case q3=>exact KK.o.cells (g:=rg) rfl
   case q4=>
    intro u hu;rcases List.mem_append.1 hu with hu|hu
    ·simp at hu;rcases hu with rfl|rfl|rfl|rfl <;> rfl
    cases hu
   case q5=>omega
   case q6=>unfold maxLen;omega
   case q7=>omega
   intro v11 w11 gQ H8;have mb:=gF.o.grown H8 Gx (fun q hq=>by cases hq);have gZ:=Q1b gQ (show base≤w2.heap.size by omega);rw[show l.length+(1+0)=l.length+1 from by omega]at gZ;clear H8 gQ;obtain⟨va,vc3,rfl⟩:=Qea gZ;go_wp2_with fail;go_ret;exact⟨.slice va (l.length+1) vc3,l.length,hk,rfl,by rw[QVc,Qcb];simpa[Qha]using gZ,(HB.o.trans (mb.mono Gn))⟩
  have KQ:k<vc:=by omega
  go_upto_region 4 with fail;refine wp_region_any (by kernel_rfl) ?_;refine QUa (ops':=Q9d) (by kernel_rfl) ?_;refine Qtg w.heap.size k (l.length-k) x (.slice (some ⟨cg,0,none⟩) l.length vc) (.slice (some ⟨cg,k*4,none⟩) (l.length-k) (vc-k)) (Qha (l.drop k)) w1 _ _ rfl (hid (fun W=>QHn W cg l.length vc k hk oO KQ)) (hid (fun wx hwx=>Src.ofSlice wx underlying29 ⟨cg,k*4,none⟩ (l.length-k) (vc-k) (Qha (l.drop k)) (by rw[Q9b];simp) (by rw[Q6e];exact QEq (Qca JZ.o hwx (fun _ _ e=>e)) k) (Q3d _))) (by omega) rfl rfl rfl HH.o.drew ((Qaa.refl _ w1).drew) ?_;intro c w2 nB rv gI h6 hq;obtain⟨H7,Hc⟩:=hq;obtain⟨y6,y21,y22,y23,y24,y25,y26,rfl⟩:=gI.ex [6,21,22,23,24,25,26] (by kernel_rfl);simp only[List.setIfInBounds_toArray,List.set_cons_zero,List.set_cons_succ]at h6 ⊢;have h6':y6=rv:=h6;subst h6';obtain⟨rg,rc,rfl,gi,Gz⟩:=H7.form (by omega);have KK:=hid H7;have gF:=hid Hc;have Gx:=Hc.size;clear H7 Hc gI h6;go_wp2_with(at_builtin;refine wpList_append_grows _ rfl (.tmp 30) (.tmp 31) 29 rfl 39 i0 (.agg #[.int .i64 0,.string ⟨#[]⟩,.string ⟨#[]⟩,.string ⟨#[]⟩]) 4 56 underlying29 hi Hz Ho H4 rfl (by decide) (some ⟨cg,0,none⟩) k k (Qha (l.take k)) rfl (by intro h;cases h) ?q0 ?q1 ⟨rg,0,none⟩ (1+(l.length-k)) rc ([.int .i64 x.kind,.string x.path,.string x.name,.string x.value]++Qha (l.drop k)) rfl ?q2 ?q3 ?q4 ?q5 ?q6 ?q7 ?_)
  case q0=>rw[Q9b];simp <;> omega
  case q1=>intro b Hc;cases Hc;rw[QGd];exact Qbl (Qbb JZ.o gF.o) _
  case q2=>rw[List.length_append,Q9b];simp <;> omega
  case q3=>exact KK.o.cells (g:=rg) rfl
  case q4=>
   intro u hu;rcases List.mem_append.1 hu with hu|hu
   ·simp at hu;rcases hu with rfl|rfl|rfl|rfl <;> rfl
   exact Q3d _ u hu
  case q5=>omega
  case q6=>unfold maxLen;omega
  case q7=>omega
  intro v11 w11 gQ H8;have mb:=gF.o.grown H8 Gx (fun q hq=>by cases hq);have gZ:=Q1b gQ (show base≤w2.heap.size by omega);rw[show k+(1+(l.length-k))=l.length+1 from by omega]at gZ;clear H8 gQ;obtain⟨va,vc3,rfl⟩:=Qea gZ;go_wp2_with fail;go_ret;exact⟨.slice va (l.length+1) vc3,k,hk,rfl,by rw[QVc,Qcb];simpa using gZ,(HB.o.trans (mb.mono Gn))⟩
end Go.Proofs.YtgaboghigefgbaaGreatDoor
