/- Lemmas on the way to the law; no conditions. -/
import Derived.Test.YtgaboghigefgbaaGreatDoorZ46
import Derived.Test.YtgaboghigefgbaaGreatDoorZ48
set_option linter.all false
set_option maxRecDepth 100000
set_option maxHeartbeats 8000000
namespace Go.Proofs.YtgaboghigefgbaaGreatDoor
open Go.Proofs.Tryz
open Go.Lib (hid)
open Go.RowKit
theorem QNl(v:Value)(l:List Qga)(x:Qga)(w:World)(hE:QFa w v l)(aU:∀y∈l,x.kind≠y.kind)(hl:l.length≤1000) :
 Calls prog 171 #[v,.agg #[.int .i64 x.kind,.string x.path,.string x.name,.string x.value]] w fun e w'=>e=.returned (.int .i64 (-1))∧Below w.heap.size w w':=by
 obtain⟨a,cap,rfl,gy,gh⟩:=hE.slice;have He:Below w.heap.size w (w.alloc (.cells #[.int .i64 x.kind,.string x.path,.string x.name,.string x.value] 39)):=Bq;have M4:=Holds.new w #[.int .i64 x.kind,.string x.path,.string x.name,.string x.value] 39;have HE:=hid hE;have zk:=hid aU;have gK:=hid He;have l9:=hid M4;clear hE aU He M4;go_enter func171,ntmps171;go_wp2_with fail;go_loopg [8] (l.length) (fun f y wr=>∃k:Nat,y=.int .i64 k∧k≤l.length∧l.length≤k+f∧Hid (Below w.heap.size w wr)∧Hid (Holds wr w.heap.size #[.int .i64 x.kind,.string x.path,.string x.name,.string x.value] 39))
 case atStart=>exact⟨0,rfl,by omega,by omega,gK,l9⟩
 case round=>
  clear gK l9;obtain⟨k,rfl,hk,hf,HB,HH⟩:=hrel;by_cases Hh:k<l.length
  ·have Mg:(k:Int)<(l.length:Int):=by omega
   obtain⟨g,o,e1,hg,Hw⟩:=Q7a (HE.o.new HB.o) (by omega);subst e1;obtain⟨d0,d1,d2,d3⟩:=Hw k Hh;have Hl:(x.kind==l[k].kind)=false:=by simpa using zk.o _ (List.getElem_mem Hh)
   have c0:=HH.o.cell 0;have c1:=HH.o.cell 1;have c2:=HH.o.cell 2;have c3:=HH.o.cell 3;have cl:=HH.o.lt;clear Hw;generalize l[k]=y at *
   go_wp2_with fail;go_quiet(fail);go_wp2_with fail;go_roundg (gk-1)
   case measure=>omega
   case rel=>exact⟨k+1,by go_num,by omega,by omega,hid (HB.o.trans (Qaa.below (S:=fun _=>False) ((Qaa.refl _ _).drewN _) HB.o.size (fun _ _ e=>e))),hid (HH.o.drewN _)⟩
  have Mg:¬(k:Int)<(l.length:Int):=by omega
  go_wp2_with fail;go_ret;exact⟨rfl,HB.o⟩
theorem Qsi(v:Value)(l:List Qga)(x:Qga)(w:World)(hE:QFa w v l)(aU:∀y∈l,x.kind≠y.kind)(hl:l.length≤1000) :
 Calls prog 127 #[v,.agg #[.int .i64 x.kind,.string x.path,.string x.name,.string x.value]] w fun e w'=>e=.returned (.bool false)∧Below w.heap.size w w':=by
 obtain⟨a,cap,rfl,gy,gh⟩:=hE.slice;have He:Below w.heap.size w (w.alloc (.cells #[.int .i64 x.kind,.string x.path,.string x.name,.string x.value] 39)):=Bq;have HI:=hid (QNl (.slice a l.length cap) l x _ (hE.new He) aU hl);clear hE aU;go_enter func127,ntmps127;go_wp2_with fail;refine Calls.mono (by exact HI.o) ?_;rintro e w1 ⟨rfl,Hb⟩;go_wp2_with fail;go_ret;exact⟨rfl,He.trans (Hb.mono He.size)⟩
theorem Qot(x y:Qga)(cb:Nat)(w:World)(hH:Holds w cb #[.int .i64 x.kind,.string x.path,.string x.name,.string x.value] 39) :
 Calls prog 126 #[.agg #[.int .i64 y.kind,.string y.path,.string y.name,.string y.value],.pointer (some ⟨cb,0,none⟩)] w fun e w'=>e=.returned (.bool (Q2a x y))∧Below w.heap.size w w':=by
 have He:Below w.heap.size w (w.alloc (.cells #[.int .i64 y.kind,.string y.path,.string y.name,.string y.value] 39)):=Bq;have c0:=hH.cell 0;have c1:=hH.cell 1;have c2:=hH.cell 2;have c3:=hH.cell 3;have cl:=hH.lt;have HC:=hid (fun wx=>QUk x y wx);generalize Q2a x y=R at *
 clear hH;go_enter func126,ntmps126;go_wp2_with fail;refine Calls.mono (by exact HC.o _) ?_;rintro e w1 ⟨rfl,Hb⟩;go_wp2_with fail;go_ret;exact⟨rfl,He.trans (Hb.mono He.size)⟩
theorem Qrk:∀args w,(callFunc 126 args).run prog w=.ok (.enter 126 args) w:=enters_of func126 (by kernel_rfl) rfl
noncomputable def Qzi:Array Oper:=(QPa (Tryz.f87.body.getD .skip) 3).getD #[]
theorem ofR:Q0b .any Qzi=true:=by kernel_rfl
theorem QNt:QRb Qzi=true:=by kernel_rfl
theorem QJu:Qzi.size=6:=by kernel_rfl
def OfF(rb _:Nat)(_ ev:Value)(x:Qga)(_:List Qga)(j:Nat):Value→World→Prop:=match j with
 | 0=>fun u _=>u=.pointer (some ⟨rb,0,none⟩)
 | 1=>fun u _=>u=.pointer (some ⟨rb,0,none⟩)
 | 2=>fun u _=>u=.pointer (some ⟨rb,1,none⟩)
 | 3=>fun u _=>u=ev
 | 4=>fun u _=>u=.agg #[.int .i64 x.kind,.string x.path,.string x.name,.string x.value]
 | 5=>fun u _=>u=.bool false
 | _=>fun _ _=>True
def OfC(rb xb:Nat)(ov ev:Value)(x:Qga)(es:List Qga)(w:World):Prop:=Holds w rb #[ov,ev] 120∧Holds w xb #[.int .i64 x.kind,.string x.path,.string x.name,.string x.value] 39∧QFa w ev es
section
variable{rb xb:Nat}{ov ev:Value}{x:Qga}{es:List Qga}{w w':World}
theorem OfF.stable{j:Nat}{u:Value}(h:OfF rb xb ov ev x es j u w)(k:Below w.heap.size w w'):OfF rb xb ov ev x es j u w':=by
 unfold OfF at *
 split at h
 all_goals first
  | exact h
  | (obtain⟨nB,e,hh⟩:=h;exact⟨nB,e,hh.fr k⟩)
end
theorem Qdo{Q:Exit→Act→World→Prop}(rb xb:Nat)(ov ev:Value)(x:Qga)(es:List Qga)(W w:World)(A:Act)(hsz:A.tmps.size=33)(hnoe:∀y∈es,x.kind≠y.kind)(hlen:es.length≤1000)
 (a0:A.tmps.getD 0 undef=.pointer (some ⟨rb,0,none⟩)) (a3:A.tmps.getD 3 undef=.pointer (some ⟨xb,0,none⟩)) (hC0:OfC rb xb ov ev x es W) (hE0:Below W.heap.size W w)
 (hQ:∀c w',Qpb Qzi A c→c.tmps.getD 16 undef=.bool false→Below W.heap.size W w'→Q .normal c w') :
 wpAny prog .any Qzi Q Qzi.size (Array.replicate Qzi.size false) A w:=by
 refine QNa (fun l c wx=>Qsb Qzi A (OfF rb xb ov ev x es) (fun _=>True) l c wx∧Below W.heap.size W wx) ofR ?hend ?Hk _ _ _ _ (by simp) (by simp) ⟨Qsb.start trivial,hE0⟩
 case hend=>
  rintro l c wx ⟨hI,hS⟩ hl;have hh:∀k,k<6→l.getD k false=true:=fun k hk=>hl k (by rw[QJu];exact hk);exact hQ c wx hI.1.1 (hI.fact 5 16 rfl (hh 5 (by decide))) hS
 intro l c wx KV i' op ho hl Ha K' hK';obtain⟨hI,hS⟩:=KV;have ke:l.size=6:=by rw[hI.1.2.2.1.1,QJu]
 have hi':i'<6:=by rw[←QJu];exact(Array.getElem?_eq_some_iff.1 ho).1
 have Hf:=ho;simp only[Qzi,QPa,Tryz.f87,Option.getD_some,reduceIte,Nat.reduceEqDiff]at ho;have s0:=(hI.slot 0 (by kernel_rfl)).trans a0;have s3:=(hI.slot 3 (by kernel_rfl)).trans a3;have fs:=And.intro True.intro True.intro;simp only[Array.getD_eq_getD_getElem?]at s0 s3;have GB:i'=0∨i'=1∨i'=2∨i'=3∨i'=4∨i'=5:=by omega
 clear hi';rcases GB with rfl|rfl|rfl|rfl|rfl|rfl
 all_goals cases ho
 ·go_simp;exact hK' _ _ ⟨hI.st QNt 0 11 hsz Hf Ha rfl,hS⟩
 ·have f0:c.tmps.getD 11 undef=.pointer (some ⟨rb,0,none⟩):=hI.yf 0 11 6 Hf Ha;have e0:=gE f0;go_simp;exact hK' _ _ ⟨hI.st QNt 1 12 hsz Hf Ha rfl,hS⟩
 ·have f1:c.tmps.getD 12 undef=.pointer (some ⟨rb,0,none⟩):=hI.yf 1 12 6 Hf Ha;have e1:=gE f1;go_simp;exact hK' _ _ ⟨hI.st QNt 2 13 hsz Hf Ha rfl,hS⟩
 ·have f2:c.tmps.getD 13 undef=.pointer (some ⟨rb,1,none⟩):=hI.yf 2 13 6 Hf Ha;have e2:=gE f2;have hc:OfC rb xb ov ev x es wx:=⟨hC0.1.fr hS,hC0.2.1.fr hS,hC0.2.2.new hS⟩;have x0:=hc.1.cell 1;have xl:=hc.1.lt;go_simp;exact hK' _ _ ⟨hI.st QNt 3 14 hsz Hf Ha rfl,hS⟩
 ·have hc:OfC rb xb ov ev x es wx:=⟨hC0.1.fr hS,hC0.2.1.fr hS,hC0.2.2.new hS⟩;have x0:=hc.2.1.cell 0;have x1:=hc.2.1.cell 1;have x2:=hc.2.1.cell 2;have x3:=hc.2.1.cell 3;have xl:=hc.2.1.lt;go_simp;exact hK' _ _ ⟨hI.st QNt 4 15 hsz Hf Ha rfl,hS⟩
 have f3:c.tmps.getD 14 undef=ev:=hI.yf 3 14 6 Hf Ha;have e3:=gE f3;have f4:c.tmps.getD 15 undef=.agg #[.int .i64 x.kind,.string x.path,.string x.name,.string x.value]:=hI.yf 4 15 6 Hf Ha;have e4:=gE f4;have hc:OfC rb xb ov ev x es wx:=⟨hC0.1.fr hS,hC0.2.1.fr hS,hC0.2.2.new hS⟩;go_simp;refine(Qsi ev es x wx hc.2.2 hnoe hlen).mono ?_;rintro e w2 ⟨rfl,Hc⟩;exact hK' _ _ ⟨hI.step QNt 5 16 rfl (by rw[hsz];decide) _ _ Hf Ha trivial (fun _ _ h=>OfF.stable h Hc) rfl,hS.trans (Hc.mono hS.size)⟩
noncomputable def Q8d:Array Oper:=(QPa (Tryz.f87.body.getD .skip) 7).getD #[]
theorem ogR:Q0b .any Q8d=true:=by kernel_rfl
theorem Q9q:QRb Q8d=true:=by kernel_rfl
theorem QKu:Q8d.size=11:=by kernel_rfl
theorem QWm{w:World}{B:Nat}{x:Qga}(h:Holds w B #[.int .i64 x.kind,.string x.path,.string x.name,.string x.value] 39):Src prog 4 29 (.slice (some ⟨B,0,none⟩) 1 1) 1 [.int .i64 x.kind,.string x.path,.string x.name,.string x.value] w:=
 Src.ofSlice w underlying29 ⟨B,0,none⟩ 1 1 _ rfl (fun j u hu=>World.news_of_block (cs:=#[.int .i64 x.kind,.string x.path,.string x.name,.string x.value]) (t:=39) (fr:=(0,0)) h j u hu) (fun u hu=>by simp at hu;rcases hu with rfl|rfl|rfl|rfl <;> rfl)
def OgF(_ rb _ _:Nat)(_ ev:Value)(x:Qga)(_:List Value)(nB:Nat)(rv:Value)(j:Nat):Value→World→Prop:=match j with
 | 0=>fun u _=>u=.pointer (some ⟨rb,0,none⟩)
 | 1=>fun u _=>u=.pointer (some ⟨rb,0,none⟩)
 | 2=>fun u _=>u=.pointer (some ⟨rb,0,none⟩)
 | 3=>fun u _=>u=.pointer (some ⟨rb,1,none⟩)
 | 4=>fun u _=>u=ev
 | 5=>fun u _=>u=.agg #[.int .i64 x.kind,.string x.path,.string x.name,.string x.value]
 | 6=>fun u _=>u=.slice (some ⟨nB,0,none⟩) 1 1
 | 7=>fun u _=>u=rv
 | 8=>fun u _=>u=.pointer (some ⟨rb,0,none⟩)
 | 9=>fun u _=>u=.pointer (some ⟨rb,1,none⟩)
 | _=>fun _ _=>True
def OgC(_ rb xb _:Nat)(ov ev:Value)(x:Qga)(_:List Value)(_ w:World):Prop:=Holds w rb #[ov,ev] 120∧Holds w xb #[.int .i64 x.kind,.string x.path,.string x.name,.string x.value] 39
def OgE(base rb _ n:Nat)(ov ev:Value)(x:Qga)(xs:List Value)(nB:Nat)(rv:Value)(W w:World)(l:Array Bool):Prop:=
 if l.getD 6 false=false then(Qaa (fun _=>False) W w)else
 if l.getD 7 false=false then(Qaa (fun _=>False) W w∧Holds w nB #[.int .i64 x.kind,.string x.path,.string x.name,.string x.value] 39∧W.heap.size≤nB)else
 if l.getD 10 false=false then(w.ownsRow base 39 4 rv (n+1) (xs++[.int .i64 x.kind,.string x.path,.string x.name,.string x.value])∧Qaa (fun b=>ev.ownBlock=some b) W w)else
 ∃w3,w=w3.setCell ⟨rb,1,none⟩ rv∧w3.ownsRow base 39 4 rv (n+1) (xs++[.int .i64 x.kind,.string x.path,.string x.name,.string x.value])∧Qaa (fun b=>ev.ownBlock=some b) W w3∧Holds w3 rb #[ov,ev] 120
section
variable{base rb xb n:Nat}{ov ev:Value}{x:Qga}{xs:List Value}{nB:Nat}{rv:Value}{W w:World}{l:Array Bool}
theorem OgE.other{j:Nat}(h:OgE base rb xb n ov ev x xs nB rv W w l)(n0:j≠6:=by decide)(n1:j≠7:=by decide)(n2:j≠10:=by decide):OgE base rb xb n ov ev x xs nB rv W w (l.setIfInBounds j true):=by
 unfold OgE at h ⊢;rw[Qsa n0,Qsa n1,Qsa n2];exact h
theorem OgE.at0(h:OgE base rb xb n ov ev x xs nB rv W w l)(no:l.getD 6 false=false):Qaa (fun _=>False) W w:=by
 unfold OgE at h;rw[no,if_pos rfl]at h;exact h
theorem OgE.to0(hs:6<l.size)(no:l.getD 7 false=false)(h:Qaa (fun _=>False) W w∧Holds w nB #[.int .i64 x.kind,.string x.path,.string x.name,.string x.value] 39∧W.heap.size≤nB):OgE base rb xb n ov ev x xs nB rv W w (l.setIfInBounds 6 true):=by
 unfold OgE;rw[Qjb hs,if_neg (by simp)];rw[Qsa (show 6≠7 by decide),no,if_pos rfl];exact h
theorem OgE.at1(h:OgE base rb xb n ov ev x xs nB rv W w l)(y0:l.getD 6 false=true)(no:l.getD 7 false=false):Qaa (fun _=>False) W w∧Holds w nB #[.int .i64 x.kind,.string x.path,.string x.name,.string x.value] 39∧W.heap.size≤nB:=by
 unfold OgE at h;rw[y0,if_neg (by simp)]at h;rw[no,if_pos rfl]at h;exact h
theorem OgE.to1(y0:l.getD 6 false=true)(hs:7<l.size)(no:l.getD 10 false=false)(h:w.ownsRow base 39 4 rv (n+1) (xs++[.int .i64 x.kind,.string x.path,.string x.name,.string x.value])∧Qaa (fun b=>ev.ownBlock=some b) W w):OgE base rb xb n ov ev x xs nB rv W w (l.setIfInBounds 7 true):=by
 unfold OgE;rw[Qsa (show 7≠6 by decide),y0,if_neg (by simp)];rw[Qjb hs,if_neg (by simp)];rw[Qsa (show 7≠10 by decide),no,if_pos rfl];exact h
theorem OgE.at2(h:OgE base rb xb n ov ev x xs nB rv W w l)(y0:l.getD 6 false=true)(y1:l.getD 7 false=true)(no:l.getD 10 false=false):w.ownsRow base 39 4 rv (n+1) (xs++[.int .i64 x.kind,.string x.path,.string x.name,.string x.value])∧Qaa (fun b=>ev.ownBlock=some b) W w:=by
 unfold OgE at h;rw[y0,if_neg (by simp)]at h;rw[y1,if_neg (by simp)]at h;rw[no,if_pos rfl]at h;exact h
theorem OgE.to2(y0:l.getD 6 false=true)(y1:l.getD 7 false=true)(hs:10<l.size)(h:∃w3,w=w3.setCell ⟨rb,1,none⟩ rv∧w3.ownsRow base 39 4 rv (n+1) (xs++[.int .i64 x.kind,.string x.path,.string x.name,.string x.value])∧Qaa (fun b=>ev.ownBlock=some b) W w3∧Holds w3 rb #[ov,ev] 120):OgE base rb xb n ov ev x xs nB rv W w (l.setIfInBounds 10 true):=by
 unfold OgE;rw[Qsa (show 10≠6 by decide),y0,if_neg (by simp)];rw[Qsa (show 10≠7 by decide),y1,if_neg (by simp)];rw[Qjb hs,if_neg (by simp)];exact h
theorem OgF.ghost0{nB':Nat}{j:Nat}{u:Value}(h:OgF base rb xb n ov ev x xs nB rv j u w)(n0:j≠6):OgF base rb xb n ov ev x xs nB' rv j u w:=by
 unfold OgF at *
 split at h
 all_goals first
  | exact h
  | exact absurd rfl n0
theorem OgF.ghost1{rv':Value}{j:Nat}{u:Value}(h:OgF base rb xb n ov ev x xs nB rv j u w)(n0:j≠7):OgF base rb xb n ov ev x xs nB rv' j u w:=by
 unfold OgF at *
 split at h
 all_goals first
  | exact h
  | exact absurd rfl n0
theorem OgF.world{j:Nat}{u:Value}{w':World}(h:OgF base rb xb n ov ev x xs nB rv j u w):OgF base rb xb n ov ev x xs nB rv j u w':=by
 unfold OgF at *
 split at h
 all_goals exact h
end
theorem Qeo{Q:Exit→Act→World→Prop}(base rb xb n:Nat)(ov ev:Value)(x:Qga)(xs:List Value)(W w:World)(A:Act)(hsz:A.tmps.size=33)(hnv:W.ownsRow base 39 4 ev n xs)(aU:n≤1000)(gx:base≤W.heap.size)(mB:ev.ownBlock≠some rb)(Gf:ev.ownBlock≠some xb)
 (a0:A.tmps.getD 0 undef=.pointer (some ⟨rb,0,none⟩)) (a3:A.tmps.getD 3 undef=.pointer (some ⟨xb,0,none⟩)) (hC0:OgC base rb xb n ov ev x xs W w) (hE0:Qaa (fun _=>False) W w)
 (hQ:∀c w' (nB:Nat) (rv:Value),Qpb Q8d A c→(∃w3,w'=w3.setCell ⟨rb,1,none⟩ rv∧w3.ownsRow base 39 4 rv (n+1) (xs++[.int .i64 x.kind,.string x.path,.string x.name,.string x.value])∧Qaa (fun b=>ev.ownBlock=some b) W w3∧Holds w3 rb #[ov,ev] 120)→Q .normal c w') :
 wpAny prog .any Q8d Q Q8d.size (Array.replicate Q8d.size false) A w:=by
 refine QNa (fun l c wx=>∃nB rv,Qsb Q8d A (OgF base rb xb n ov ev x xs nB rv) (fun _=>True) l c wx∧(l.getD 10 false=false→OgC base rb xb n ov ev x xs W wx)∧OgE base rb xb n ov ev x xs nB rv W wx l) ogR ?hend ?Hk _ _ _ _ (by simp) (by simp) ⟨0,.slice none 0 0,Qsb.start trivial,fun _=>hC0,by unfold OgE;rw[if_pos (QXg _ _)];exact hE0⟩
 case hend=>
  rintro l c wx ⟨nB,rv,hI,hC,hE⟩ hl;have hh:∀k,k<11→l.getD k false=true:=fun k hk=>hl k (by rw[QKu];exact hk);have J8:∃w3,wx=w3.setCell ⟨rb,1,none⟩ rv∧w3.ownsRow base 39 4 rv (n+1) (xs++[.int .i64 x.kind,.string x.path,.string x.name,.string x.value])∧Qaa (fun b=>ev.ownBlock=some b) W w3∧Holds w3 rb #[ov,ev] 120:=by
   unfold OgE at hE;rw[hh 6 (by decide),if_neg (by simp)]at hE;rw[hh 7 (by decide),if_neg (by simp)]at hE;rw[hh 10 (by decide),if_neg (by simp)]at hE;exact hE
  exact hQ c wx nB rv hI.1.1 J8
 intro l c wx KV i' op ho hl Ha K' hK';obtain⟨nB,rv,hI,hC,hE⟩:=KV;have ke:l.size=11:=by rw[hI.1.2.2.1.1,QKu]
 have hi':i'<11:=by rw[←QKu];exact(Array.getElem?_eq_some_iff.1 ho).1
 have Hf:=ho;simp only[Q8d,QPa,Tryz.f87,Option.getD_some,reduceIte,Nat.reduceEqDiff]at ho;have s0:=(hI.slot 0 (by kernel_rfl)).trans a0;have s3:=(hI.slot 3 (by kernel_rfl)).trans a3;have fs:=And.intro True.intro True.intro;simp only[Array.getD_eq_getD_getElem?]at s0 s3;have GB:i'=0∨i'=1∨i'=2∨i'=3∨i'=4∨i'=5∨i'=6∨i'=7∨i'=8∨i'=9∨i'=10:=by omega
 clear hi';rcases GB with rfl|rfl|rfl|rfl|rfl|rfl|rfl|rfl|rfl|rfl|rfl
 all_goals cases ho
 ·go_simp;exact hK' _ _ ⟨nB,rv,hI.st Q9q 0 23 hsz Hf Ha rfl,(fun h=>hC (Qja h)),hE.other⟩
 ·go_simp;exact hK' _ _ ⟨nB,rv,hI.st Q9q 1 24 hsz Hf Ha rfl,(fun h=>hC (Qja h)),hE.other⟩
 ·have f1:c.tmps.getD 24 undef=.pointer (some ⟨rb,0,none⟩):=hI.yf 1 24 11 Hf Ha;have e1:=gE f1;go_simp;exact hK' _ _ ⟨nB,rv,hI.st Q9q 2 25 hsz Hf Ha rfl,(fun h=>hC (Qja h)),hE.other⟩
 ·have f2:c.tmps.getD 25 undef=.pointer (some ⟨rb,0,none⟩):=hI.yf 2 25 11 Hf Ha;have e2:=gE f2;go_simp;exact hK' _ _ ⟨nB,rv,hI.st Q9q 3 26 hsz Hf Ha rfl,(fun h=>hC (Qja h)),hE.other⟩
 ·have f3:c.tmps.getD 26 undef=.pointer (some ⟨rb,1,none⟩):=hI.yf 3 26 11 Hf Ha;have e3:=gE f3;have hc:=hC (hI.1.2.2.1.2.no_far 11 hl (by kernel_rfl:Qzc Q8d 11 10 4=true));have x0:=hc.1.cell 1;have xl:=hc.1.lt;go_simp;exact hK' _ _ ⟨nB,rv,hI.st Q9q 4 27 hsz Hf Ha rfl,(fun h=>hC (Qja h)),hE.other⟩
 ·have hc:=hC (hI.1.2.2.1.2.no_far 11 hl (by kernel_rfl:Qzc Q8d 11 10 5=true));have x0:=hc.2.cell 0;have x1:=hc.2.cell 1;have x2:=hc.2.cell 2;have x3:=hc.2.cell 3;have xl:=hc.2.lt;go_simp;exact hK' _ _ ⟨nB,rv,hI.st Q9q 5 28 hsz Hf Ha rfl,(fun h=>hC (Qja h)),hE.other⟩
 ·have f5:c.tmps.getD 28 undef=.agg #[.int .i64 x.kind,.string x.path,.string x.name,.string x.value]:=hI.yf 5 28 11 Hf Ha;have e5:=gE f5;have hc:=hC (hI.1.2.2.1.2.no_far 11 hl (by kernel_rfl:Qzc Q8d 11 10 6=true));have hp:=hE.at0 hl;have un:=hI.1.2.2.1.2.no_far 11 hl (by kernel_rfl:Qzc Q8d 11 7 6=true);have Kj:Qaa (fun _=>False) W (wx.alloc (.cells #[.int .i64 x.kind,.string x.path,.string x.name,.string x.value] 39))∧Holds (wx.alloc (.cells #[.int .i64 x.kind,.string x.path,.string x.name,.string x.value] 39)) wx.heap.size #[.int .i64 x.kind,.string x.path,.string x.name,.string x.value] 39∧W.heap.size≤wx.heap.size:=⟨hp.alloc _,Holds.new _ _ _,hp.size⟩;have gh:OgC base rb xb n ov ev x xs W (wx.alloc (.cells #[.int .i64 x.kind,.string x.path,.string x.name,.string x.value] 39)):=⟨hc.1.alloc _,hc.2.alloc _⟩;go_simp;have hJ:Qsb Q8d A (OgF base rb xb n ov ev x xs (wx.heap.size) rv) (fun _=>True) l c wx:=⟨hI.1.other (fun j hj u hF=>OgF.ghost0 hF (Q1a hj hl)),hI.2⟩;exact hK' _ _ ⟨wx.heap.size,_,hJ.step Q9q 6 29 rfl (by rw[hsz];decide) _ _ Hf Ha trivial (fun _ _ h=>OgF.world h) rfl,fun _=>gh,OgE.to0 (by rw[ke];decide) un Kj⟩
 ·have f4:c.tmps.getD 27 undef=ev:=hI.yf 4 27 11 Hf Ha;have e4:=gE f4;have f6:c.tmps.getD 29 undef=.slice (some ⟨nB,0,none⟩) 1 1:=hI.yf 6 29 11 Hf Ha;have e6:=gE f6;have hc:=hC (hI.1.2.2.1.2.no_far 11 hl (by kernel_rfl:Qzc Q8d 11 10 7=true));have y0:l.getD 6 false=true:=hI.1.2.2.1.2.yes_far 11 Hf Ha (by decide) (by kernel_rfl);have hp:=hE.at1 y0 hl;have un:=hI.1.2.2.1.2.no_far 11 hl (by kernel_rfl:Qzc Q8d 11 10 7=true);obtain⟨KH,iw,rq⟩:=hp;obtain⟨i1,hi,Hz,Ho,H4⟩:=info_parts QXf;refine Qxc wx rfl (.tmp 27) (.tmp 29) 29 29 rfl base 39 i1 _ 4 56 underlying29 hi Hz Ho H4 rfl ev n xs (by exact f4) (Qca hnv KH (fun _ _ e=>e)) _ (by exact f6) 1 [.int .i64 x.kind,.string x.path,.string x.name,.string x.value] (QWm iw) (by unfold maxLen;omega) (by omega) (Nat.le_trans gx KH.size) ?_;intro v3 w2 Hi Hd gj;have kg:Qaa (fun b=>ev.ownBlock=some b) wx w2:=Qaa.of_grown Hd (fun i e=>e);have Kj:w2.ownsRow base 39 4 v3 (n+1) (xs++[.int .i64 x.kind,.string x.path,.string x.name,.string x.value])∧Qaa (fun b=>ev.ownBlock=some b) W w2:=⟨Hi,(KH.mono (S:=fun b=>ev.ownBlock=some b) (fun _ _ e=>e.elim)).trans kg (fun _ _ e=>e)⟩;have gh:OgC base rb xb n ov ev x xs W w2:=⟨hc.1.keeps kg mB,hc.2.keeps kg Gf⟩;have hJ:Qsb Q8d A (OgF base rb xb n ov ev x xs nB (v3)) (fun _=>True) l c wx:=⟨hI.1.other (fun j hj u hF=>OgF.ghost1 hF (Q1a hj hl)),hI.2⟩;exact hK' _ _ ⟨_,v3,hJ.step Q9q 7 30 rfl (by rw[hsz];decide) _ _ Hf Ha trivial (fun _ _ h=>OgF.world h) rfl,fun _=>gh,OgE.to1 y0 (by rw[ke];decide) un Kj⟩
 ·have f0:c.tmps.getD 23 undef=.pointer (some ⟨rb,0,none⟩):=hI.yf 0 23 11 Hf Ha;have e0:=gE f0;go_simp;exact hK' _ _ ⟨nB,rv,hI.st Q9q 8 31 hsz Hf Ha rfl,(fun h=>hC (Qja h)),hE.other⟩
 ·have f8:c.tmps.getD 31 undef=.pointer (some ⟨rb,0,none⟩):=hI.yf 8 31 11 Hf Ha;have e8:=gE f8;go_simp;exact hK' _ _ ⟨nB,rv,hI.st Q9q 9 32 hsz Hf Ha rfl,(fun h=>hC (Qja h)),hE.other⟩
 have f7:c.tmps.getD 30 undef=rv:=hI.yf 7 30 11 Hf Ha;have e7:=gE f7;have f9:c.tmps.getD 32 undef=.pointer (some ⟨rb,1,none⟩):=hI.yf 9 32 11 Hf Ha;have e9:=gE f9;have hc:=hC (hI.1.2.2.1.2.no_far 11 hl (by kernel_rfl:Qzc Q8d 11 10 10=true));have y0:l.getD 6 false=true:=hI.1.2.2.1.2.yes_far 11 Hf Ha (by decide) (by kernel_rfl);have y1:l.getD 7 false=true:=hI.1.2.2.1.2.yes_far 11 Hf Ha (by decide) (by kernel_rfl);have hp:=hE.at2 y0 y1 hl;obtain⟨a2,c2,rfl⟩:=Qea hp.1;have x0:=hc.1.cell 1;have x1:=hc.1.free 1;have x2:=hc.1.lt;go_simp;have Kj:=(⟨_,rfl,hp.1,hp.2,hc.1⟩:∃w3,wx.setCell ⟨rb,1,none⟩ (.slice a2 (n+1) c2)=w3.setCell ⟨rb,1,none⟩ (.slice a2 (n+1) c2)∧w3.ownsRow base 39 4 (.slice a2 (n+1) c2) (n+1) (xs++[.int .i64 x.kind,.string x.path,.string x.name,.string x.value])∧Qaa (fun b=>ev.ownBlock=some b) W w3∧Holds w3 rb #[ov,ev] 120);exact hK' _ _ ⟨_,_,hI.stepN 10 rfl _ Hf Ha trivial (fun _ _ h=>OgF.world h) trivial,fun h=>absurd h (by rw[Qjb (by rw[ke];decide)];simp),OgE.to2 y0 y1 (by rw[ke];decide) Kj⟩
noncomputable def QOb:Array Oper:=(QPa (Tryz.f19.body.getD .skip) 17).getD #[]
theorem QGu:Q0b .any QOb=true:=by kernel_rfl
theorem Q9f:QRb QOb=true:=by kernel_rfl
theorem Q7p:QOb.size=10:=by kernel_rfl
def QMd(_ zb _:Nat)(_:ByteArray)(ev:Value)(x:Qga)(_:List Qga)(g _:Nat)(nB:Nat)(rv:Value)(j:Nat):Value→World→Prop:=match j with
 | 0=>fun u _=>u=.pointer (some ⟨zb,1,none⟩)
 | 1=>fun u _=>u=ev
 | 2=>fun u _=>u=.pointer (some ⟨zb,1,none⟩)
 | 3=>fun u _=>u=ev
 | 4=>fun u _=>u=.pointer (some ⟨g,0,none⟩)
 | 5=>fun u _=>u=.agg #[.int .i64 x.kind,.string x.path,.string x.name,.string x.value]
 | 6=>fun u _=>u=.slice (some ⟨nB,0,none⟩) 1 1
 | 7=>fun u _=>u=rv
 | 8=>fun u _=>u=.pointer (some ⟨zb,1,none⟩)
 | _=>fun _ _=>True
def QTs(_ zb _:Nat)(nm:ByteArray)(ev:Value)(x:Qga)(_:List Qga)(g _:Nat)(_ w:World):Prop:=Holds w zb #[.string nm,ev] 31∧Qie w g 0 x
def QAc(W0 zb n:Nat)(nm:ByteArray)(ev:Value)(x:Qga)(es:List Qga)(_ _:Nat)(nB:Nat)(rv:Value)(W w:World)(l:Array Bool):Prop:=
 if l.getD 6 false=false then(Qaa (fun _=>False) W w)else
 if l.getD 7 false=false then(Qaa (fun _=>False) W w∧Holds w nB #[.int .i64 x.kind,.string x.path,.string x.name,.string x.value] 39∧W.heap.size≤nB)else
 if l.getD 9 false=false then(w.ownsRow W0 39 4 rv (n+1) (Qha es++[.int .i64 x.kind,.string x.path,.string x.name,.string x.value])∧Qaa (fun b=>ev.ownBlock=some b) W w∧Holds w zb #[.string nm,ev] 31)else
 ∃w3,w=w3.setCell ⟨zb,1,none⟩ rv∧w3.ownsRow W0 39 4 rv (n+1) (Qha es++[.int .i64 x.kind,.string x.path,.string x.name,.string x.value])∧Qaa (fun b=>ev.ownBlock=some b) W w3∧Holds w3 zb #[.string nm,ev] 31
section
variable{W0 zb n:Nat}{nm:ByteArray}{ev:Value}{x:Qga}{es:List Qga}{g cap:Nat}{nB:Nat}{rv:Value}{W w:World}{l:Array Bool}
theorem QAc.other{j:Nat}(h:QAc W0 zb n nm ev x es g cap nB rv W w l)(n0:j≠6:=by decide)(n1:j≠7:=by decide)(n2:j≠9:=by decide):QAc W0 zb n nm ev x es g cap nB rv W w (l.setIfInBounds j true):=by
 unfold QAc at h ⊢;rw[Qsa n0,Qsa n1,Qsa n2];exact h
theorem QAc.at0(h:QAc W0 zb n nm ev x es g cap nB rv W w l)(no:l.getD 6 false=false):Qaa (fun _=>False) W w:=by
 unfold QAc at h;rw[no,if_pos rfl]at h;exact h
theorem QAc.to0(hs:6<l.size)(no:l.getD 7 false=false)(h:Qaa (fun _=>False) W w∧Holds w nB #[.int .i64 x.kind,.string x.path,.string x.name,.string x.value] 39∧W.heap.size≤nB):QAc W0 zb n nm ev x es g cap nB rv W w (l.setIfInBounds 6 true):=by
 unfold QAc;rw[Qjb hs,if_neg (by simp)];rw[Qsa (show 6≠7 by decide),no,if_pos rfl];exact h
theorem QAc.at1(h:QAc W0 zb n nm ev x es g cap nB rv W w l)(y0:l.getD 6 false=true)(no:l.getD 7 false=false):Qaa (fun _=>False) W w∧Holds w nB #[.int .i64 x.kind,.string x.path,.string x.name,.string x.value] 39∧W.heap.size≤nB:=by
 unfold QAc at h;rw[y0,if_neg (by simp)]at h;rw[no,if_pos rfl]at h;exact h
theorem QAc.to1(y0:l.getD 6 false=true)(hs:7<l.size)(no:l.getD 9 false=false)(h:w.ownsRow W0 39 4 rv (n+1) (Qha es++[.int .i64 x.kind,.string x.path,.string x.name,.string x.value])∧Qaa (fun b=>ev.ownBlock=some b) W w∧Holds w zb #[.string nm,ev] 31):QAc W0 zb n nm ev x es g cap nB rv W w (l.setIfInBounds 7 true):=by
 unfold QAc;rw[Qsa (show 7≠6 by decide),y0,if_neg (by simp)];rw[Qjb hs,if_neg (by simp)];rw[Qsa (show 7≠9 by decide),no,if_pos rfl];exact h
theorem QAc.at2(h:QAc W0 zb n nm ev x es g cap nB rv W w l)(y0:l.getD 6 false=true)(y1:l.getD 7 false=true)(no:l.getD 9 false=false):w.ownsRow W0 39 4 rv (n+1) (Qha es++[.int .i64 x.kind,.string x.path,.string x.name,.string x.value])∧Qaa (fun b=>ev.ownBlock=some b) W w∧Holds w zb #[.string nm,ev] 31:=by
 unfold QAc at h;rw[y0,if_neg (by simp)]at h;rw[y1,if_neg (by simp)]at h;rw[no,if_pos rfl]at h;exact h
theorem QAc.to2(y0:l.getD 6 false=true)(y1:l.getD 7 false=true)(hs:9<l.size)(h:∃w3,w=w3.setCell ⟨zb,1,none⟩ rv∧w3.ownsRow W0 39 4 rv (n+1) (Qha es++[.int .i64 x.kind,.string x.path,.string x.name,.string x.value])∧Qaa (fun b=>ev.ownBlock=some b) W w3∧Holds w3 zb #[.string nm,ev] 31):QAc W0 zb n nm ev x es g cap nB rv W w (l.setIfInBounds 9 true):=by
 unfold QAc;rw[Qsa (show 9≠6 by decide),y0,if_neg (by simp)];rw[Qsa (show 9≠7 by decide),y1,if_neg (by simp)];rw[Qjb hs,if_neg (by simp)];exact h
theorem QMd.ghost0{nB':Nat}{j:Nat}{u:Value}(h:QMd W0 zb n nm ev x es g cap nB rv j u w)(n0:j≠6):QMd W0 zb n nm ev x es g cap nB' rv j u w:=by
 unfold QMd at *
 split at h
 all_goals first
  | exact h
  | exact absurd rfl n0
theorem QMd.ghost1{rv':Value}{j:Nat}{u:Value}(h:QMd W0 zb n nm ev x es g cap nB rv j u w)(n0:j≠7):QMd W0 zb n nm ev x es g cap nB rv' j u w:=by
 unfold QMd at *
 split at h
 all_goals first
  | exact h
  | exact absurd rfl n0
theorem QMd.world{j:Nat}{u:Value}{w':World}(h:QMd W0 zb n nm ev x es g cap nB rv j u w):QMd W0 zb n nm ev x es g cap nB rv j u w':=by
 unfold QMd at *
 split at h
 all_goals exact h
end
theorem QKj{Q:Exit→Act→World→Prop}(W0 zb n:Nat)(nm:ByteArray)(ev:Value)(x:Qga)(es:List Qga)(g cap:Nat)(W w:World)(A:Act)(hsz:A.tmps.size=90)(uv:Hid (ev=.slice (some ⟨g,0,none⟩) n cap∧0<n))(Hn:W.ownsRow W0 39 4 ev n (Qha es))(hn:n≤1000)(gM:W0≤W.heap.size)
 (a5:A.tmps.getD 5 undef=.pointer (some ⟨zb,0,none⟩)) (hC0:QTs W0 zb n nm ev x es g cap W w) (hE0:Qaa (fun _=>False) W w)
 (hQ:∀c w' (nB:Nat) (rv:Value),Qpb QOb A c→(∃w3,w'=w3.setCell ⟨zb,1,none⟩ rv∧w3.ownsRow W0 39 4 rv (n+1) (Qha es++[.int .i64 x.kind,.string x.path,.string x.name,.string x.value])∧Qaa (fun b=>ev.ownBlock=some b) W w3∧Holds w3 zb #[.string nm,ev] 31)→Q .normal c w') :
 wpAny prog .any QOb Q QOb.size (Array.replicate QOb.size false) A w:=by
 refine QNa (fun l c wx=>∃nB rv,Qsb QOb A (QMd W0 zb n nm ev x es g cap nB rv) (fun _=>True) l c wx∧(l.getD 7 false=false→QTs W0 zb n nm ev x es g cap W wx)∧QAc W0 zb n nm ev x es g cap nB rv W wx l) QGu ?hend ?Hk _ _ _ _ (by simp) (by simp) ⟨0,.slice none 0 0,Qsb.start trivial,fun _=>hC0,by unfold QAc;rw[if_pos (QXg _ _)];exact hE0⟩
 case hend=>
  rintro l c wx ⟨nB,rv,hI,hC,hE⟩ hl;have hh:∀k,k<10→l.getD k false=true:=fun k hk=>hl k (by rw[Q7p];exact hk);have J8:∃w3,wx=w3.setCell ⟨zb,1,none⟩ rv∧w3.ownsRow W0 39 4 rv (n+1) (Qha es++[.int .i64 x.kind,.string x.path,.string x.name,.string x.value])∧Qaa (fun b=>ev.ownBlock=some b) W w3∧Holds w3 zb #[.string nm,ev] 31:=by
   unfold QAc at hE;rw[hh 6 (by decide),if_neg (by simp)]at hE;rw[hh 7 (by decide),if_neg (by simp)]at hE;rw[hh 9 (by decide),if_neg (by simp)]at hE;exact hE
  exact hQ c wx nB rv hI.1.1 J8
 intro l c wx KV i' op ho hl Ha K' hK';obtain⟨nB,rv,hI,hC,hE⟩:=KV;have ke:l.size=10:=by rw[hI.1.2.2.1.1,Q7p]
 have hi':i'<10:=by rw[←Q7p];exact(Array.getElem?_eq_some_iff.1 ho).1
 have Hf:=ho;simp only[QOb,QPa,Tryz.f19,Option.getD_some,reduceIte,Nat.reduceEqDiff]at ho;have s5:=(hI.slot 5 (by kernel_rfl)).trans a5;have fs:=And.intro True.intro True.intro;simp only[Array.getD_eq_getD_getElem?]at s5;have GB:i'=0∨i'=1∨i'=2∨i'=3∨i'=4∨i'=5∨i'=6∨i'=7∨i'=8∨i'=9:=by omega
 clear hi';rcases GB with rfl|rfl|rfl|rfl|rfl|rfl|rfl|rfl|rfl|rfl
 all_goals cases ho
 ·go_simp;exact hK' _ _ ⟨nB,rv,hI.st Q9f 0 80 hsz Hf Ha rfl,(fun h=>hC (Qja h)),hE.other⟩
 ·have f0:c.tmps.getD 80 undef=.pointer (some ⟨zb,1,none⟩):=hI.yf 0 80 10 Hf Ha;have e0:=gE f0;have hc:=hC (hI.1.2.2.1.2.no_far 10 hl (by kernel_rfl:Qzc QOb 10 7 1=true));have x0:=hc.1.cell 1;have xl:=hc.1.lt;go_simp;exact hK' _ _ ⟨nB,rv,hI.st Q9f 1 81 hsz Hf Ha rfl,(fun h=>hC (Qja h)),hE.other⟩
 ·go_simp;exact hK' _ _ ⟨nB,rv,hI.st Q9f 2 82 hsz Hf Ha rfl,(fun h=>hC (Qja h)),hE.other⟩
 ·have f2:c.tmps.getD 82 undef=.pointer (some ⟨zb,1,none⟩):=hI.yf 2 82 10 Hf Ha;have e2:=gE f2;have hc:=hC (hI.1.2.2.1.2.no_far 10 hl (by kernel_rfl:Qzc QOb 10 7 3=true));have x0:=hc.1.cell 1;have xl:=hc.1.lt;go_simp;exact hK' _ _ ⟨nB,rv,hI.st Q9f 3 83 hsz Hf Ha rfl,(fun h=>hC (Qja h)),hE.other⟩
 ·have f3:c.tmps.getD 83 undef=ev:=hI.yf 3 83 10 Hf Ha;have e3:=gE f3;obtain⟨uv,M9⟩:=uv.o;subst uv;have hnI:(0:Int)<(n:Int):=by omega
  go_simp;exact hK' _ _ ⟨nB,rv,hI.st Q9f 4 84 hsz Hf Ha rfl,(fun h=>hC (Qja h)),hE.other⟩
 ·have f4:c.tmps.getD 84 undef=.pointer (some ⟨g,0,none⟩):=hI.yf 4 84 10 Hf Ha;have e4:=gE f4;have hc:=hC (hI.1.2.2.1.2.no_far 10 hl (by kernel_rfl:Qzc QOb 10 7 5=true));have x0:=hc.2.1;have x1:=hc.2.2.1;have x2:=hc.2.2.2.1;have x3:=hc.2.2.2.2;have xl:=World.block_lt_of_cell? wx _ x0;go_simp;exact hK' _ _ ⟨nB,rv,hI.st Q9f 5 85 hsz Hf Ha rfl,(fun h=>hC (Qja h)),hE.other⟩
 ·have f5:c.tmps.getD 85 undef=.agg #[.int .i64 x.kind,.string x.path,.string x.name,.string x.value]:=hI.yf 5 85 10 Hf Ha;have e5:=gE f5;have hc:=hC (hI.1.2.2.1.2.no_far 10 hl (by kernel_rfl:Qzc QOb 10 7 6=true));have hp:=hE.at0 hl;have un:=hI.1.2.2.1.2.no_far 10 hl (by kernel_rfl:Qzc QOb 10 7 6=true);have Kj:Qaa (fun _=>False) W (wx.alloc (.cells #[.int .i64 x.kind,.string x.path,.string x.name,.string x.value] 39))∧Holds (wx.alloc (.cells #[.int .i64 x.kind,.string x.path,.string x.name,.string x.value] 39)) wx.heap.size #[.int .i64 x.kind,.string x.path,.string x.name,.string x.value] 39∧W.heap.size≤wx.heap.size:=⟨hp.alloc _,Holds.new _ _ _,hp.size⟩;have gh:QTs W0 zb n nm ev x es g cap W (wx.alloc (.cells #[.int .i64 x.kind,.string x.path,.string x.name,.string x.value] 39)):=⟨Holds.alloc hc.1 _,hc.2.keep (Bq) (World.block_lt_of_cell? wx _ hc.2.1)⟩;go_simp;have hJ:Qsb QOb A (QMd W0 zb n nm ev x es g cap (wx.heap.size) rv) (fun _=>True) l c wx:=⟨hI.1.other (fun j hj u hF=>QMd.ghost0 hF (Q1a hj hl)),hI.2⟩;exact hK' _ _ ⟨wx.heap.size,_,hJ.step Q9f 6 86 rfl (by rw[hsz];decide) _ _ Hf Ha trivial (fun _ _ h=>QMd.world h) rfl,fun _=>gh,QAc.to0 (by rw[ke];decide) un Kj⟩
 ·have f1:c.tmps.getD 81 undef=ev:=hI.yf 1 81 10 Hf Ha;have e1:=gE f1;have f6:c.tmps.getD 86 undef=.slice (some ⟨nB,0,none⟩) 1 1:=hI.yf 6 86 10 Hf Ha;have e6:=gE f6;have hc:=hC (hI.1.2.2.1.2.no_far 10 hl (by kernel_rfl:Qzc QOb 10 7 7=true));have y0:l.getD 6 false=true:=hI.1.2.2.1.2.yes_far 10 Hf Ha (by decide) (by kernel_rfl);have hp:=hE.at1 y0 hl;have un:=hI.1.2.2.1.2.no_far 10 hl (by kernel_rfl:Qzc QOb 10 9 7=true);obtain⟨KH,iw,rq⟩:=hp;obtain⟨i1,hi,Hz,Ho,H4⟩:=info_parts QXf;have iC:=Qca Hn KH (fun _ _ e=>e);refine Qxc wx rfl (.tmp 81) (.tmp 86) 29 29 rfl W0 39 i1 _ 4 56 underlying29 hi Hz Ho H4 rfl ev n (Qha es) (by exact f1) iC _ (by exact f6) 1 [.int .i64 x.kind,.string x.path,.string x.name,.string x.value] (QWm iw) (by unfold maxLen;omega) (by omega) (Nat.le_trans gM KH.size) ?_;intro v3 w2 Hi Hd gj;have kg:Qaa (fun b=>ev.ownBlock=some b) wx w2:=Qaa.of_grown Hd (fun i e=>e);have Kj:w2.ownsRow W0 39 4 v3 (n+1) (Qha es++[.int .i64 x.kind,.string x.path,.string x.name,.string x.value])∧Qaa (fun b=>ev.ownBlock=some b) W w2∧Holds w2 zb #[.string nm,ev] 31:=⟨Hi,(KH.mono (S:=fun b=>ev.ownBlock=some b) (fun _ _ e=>e.elim)).trans kg (fun _ _ e=>e),Holds.grown hc.1 Hd (Qla iC hc.1 (by decide))⟩;have hJ:Qsb QOb A (QMd W0 zb n nm ev x es g cap nB (v3)) (fun _=>True) l c wx:=⟨hI.1.other (fun j hj u hF=>QMd.ghost1 hF (Q1a hj hl)),hI.2⟩;exact hK' _ _ ⟨_,v3,hJ.step Q9f 7 87 rfl (by rw[hsz];decide) _ _ Hf Ha trivial (fun _ _ h=>QMd.world h) rfl,fun h=>absurd h (by rw[Qjb (by rw[ke];decide)];simp),QAc.to1 y0 (by rw[ke];decide) un Kj⟩
 ·go_simp;exact hK' _ _ ⟨nB,rv,hI.st Q9f 8 88 hsz Hf Ha rfl,(fun h=>hC (Qja h)),hE.other⟩
 have f7:c.tmps.getD 87 undef=rv:=hI.yf 7 87 10 Hf Ha;have e7:=gE f7;have f8:c.tmps.getD 88 undef=.pointer (some ⟨zb,1,none⟩):=hI.yf 8 88 10 Hf Ha;have e8:=gE f8;have y0:l.getD 6 false=true:=hI.1.2.2.1.2.yes_far 10 Hf Ha (by decide) (by kernel_rfl);have y1:l.getD 7 false=true:=hI.1.2.2.1.2.yes_far 10 Hf Ha (by decide) (by kernel_rfl);have hp:=hE.at2 y0 y1 hl;obtain⟨a2,c2,rfl⟩:=Qea hp.1;have x0:=hp.2.2.cell 1;have x1:=hp.2.2.free 1;have x2:=hp.2.2.lt;go_simp;have Kj:=(⟨_,rfl,hp⟩:∃w3,wx.setCell ⟨zb,1,none⟩ (.slice a2 (n+1) c2)=w3.setCell ⟨zb,1,none⟩ (.slice a2 (n+1) c2)∧w3.ownsRow W0 39 4 (.slice a2 (n+1) c2) (n+1) (Qha es++[.int .i64 x.kind,.string x.path,.string x.name,.string x.value])∧Qaa (fun b=>ev.ownBlock=some b) W w3∧Holds w3 zb #[.string nm,ev] 31);exact hK' _ _ ⟨_,_,hI.stepN 9 rfl _ Hf Ha trivial (fun _ _ h=>QMd.world h) trivial,fun h=>absurd h (by rw[Qsa (show 9≠7 by decide),y1];simp),QAc.to2 y0 y1 (by rw[ke];decide) Kj⟩
def QGi(B b Z Rb:Nat)(nm:ByteArray)(ev:Value)(es:List Qga)(W w:World):Prop:=
 QFb B w b∧Holds w Z #[.string nm,ev] 31∧Holds w Rb #[.string ⟨#[]⟩,.slice none 0 0] 31∧w.ownsRow W.heap.size 39 4 ev es.length (Qha es)∧Qaa (fun i=>i=b) W w∧b<W.heap.size∧W.heap.size≤Z∧W.heap.size≤Rb∧Rb≠Z
def QRs(B b Z Rb N:Nat)(W w:World):Prop:=
 ∃(nm:ByteArray) (a:Option Addr) (c:Nat) (es:List Qga),Holds w Z #[.string nm,.slice a es.length c] 31∧Holds w Rb #[.string ⟨#[]⟩,.slice none 0 0] 31∧w.ownsRow W.heap.size 39 4 (.slice a es.length c) es.length (Qha es)∧Qyb es∧es.length≤N∧nm.size≤2000000∧QFb B w b∧Qaa (fun i=>i=b) W w
section
variable{B b Z Rb N:Nat}{nm:ByteArray}{ev:Value}{es:List Qga}{W w w':World}
theorem QGi.new(h:QGi B b Z Rb nm ev es W w)(k:Below w.heap.size w w'):QGi B b Z Rb nm ev es W w':=by
 obtain⟨h1,h2,h3,h4,h5,h6⟩:=h;have kk:=Qaa.of_fresh k (fun _=>False);exact⟨h1.new k,h2.keeps kk (fun e=>e),h3.keeps kk (fun e=>e),Qbb h4 k,h5.trans (Qaa.of_fresh k _) (fun _ _ e=>e),h6⟩
theorem QGi.call(h:QGi B b Z Rb nm ev es W w)(hT:QFb B w' b)(k:Qaa (fun i=>i=b) w w'):QGi B b Z Rb nm ev es W w':=by
 obtain⟨h1,h2,h3,h4,h5,h6⟩:=h;obtain⟨cs,hb⟩:=h1.holds;refine⟨hT,h2.keeps k (fun e=>QSa h2 hb (by decide) e),h3.keeps k (fun e=>QSa h3 hb (by decide) e),?_,h5.trans k (fun _ _ e=>e),h6⟩;exact Qca h4 k (fun g e hg=>by subst hg;exact Qla h4 hb (by decide) e)
theorem QGi.drew(h:QGi B b Z Rb nm ev es W w):QGi B b Z Rb nm ev es W w.drew:=h.call (h.1.keeps ((Qaa.refl (fun _=>False) w).drew) (fun _ e=>e.elim)) ((Qaa.refl _ w).drew)
theorem QGi.name(h:QGi B b Z Rb nm ev es W w)(hz:Qyb es)(hl:es.length≤N)(s:ByteArray)(hs:s.size≤2000000):QRs B b Z Rb N W (w.setCell ⟨Z,0,none⟩ (.string s)):=by
 obtain⟨h1,h2,h3,h4,h5,h6,h7,h8,h9⟩:=h;obtain⟨a,c,rfl⟩:=Qea h4;have dW:=h1.1;exact⟨s,a,c,es,h2.set 0 _,h3.other _ _ h9,Qvc h4 h2 (by decide) 0 _,hz,hl,hs,h1.keeps ((Qaa.refl (fun i=>i=Z) w).setCell (p:=⟨Z,0,none⟩) (.inr rfl) _) (fun i e=>by subst e;omega),h5.setCell (p:=⟨Z,0,none⟩) (.inl h7) _⟩
theorem QKq{es:List Qga}{k:Nat}{x:Qga}(h:Qyb es)(h2:x.path.size≤2000000∧x.name.size≤2000000∧x.value.size≤2000000):Qyb (es.set k x):=fun y hy=>by
 rcases List.mem_or_eq_of_mem_set hy with hy|rfl
 ·exact h y hy
 exact h2
theorem QGi.cell{g cap k:Nat}{y:Qga}(h:QGi B b Z Rb nm (.slice (some ⟨g,0,none⟩) es.length cap) es W w)(hz:Qyb es)(hl:es.length≤N)(hs:nm.size≤2000000)(o:Nat)(x:Value)(hy:y.path.size≤2000000∧y.name.size≤2000000∧y.value.size≤2000000)(hc:Qha (es.set k y)=(Qha es).set o x):QRs B b Z Rb N W (w.setCell ⟨g,o,none⟩ x):=by
 obtain⟨h1,h2,h3,h4,h5,h6,h7,h8,h9⟩:=h;have ik:W.heap.size≤g:=(h4.lt g rfl).1;have dW:=h1.1;obtain⟨s1,s2⟩:=h4.stored o x;have hlen:(es.set k y).length=es.length:=by simp
 refine⟨nm,some ⟨g,0,none⟩,cap,es.set k y,by rw[hlen];exact h2.other _ _ (fun e=>Qla h4 h2 (by decide) (by rw[e];rfl)),h3.other _ _ (fun e=>Qla h4 h3 (by decide) (by rw[e];rfl)),by rw[hlen,hc];exact s1,QKq hz hy,by omega,hs,?_,h5.setCell (p:=⟨g,o,none⟩) (.inl ik) _⟩;exact h1.keeps ((Qaa.refl (fun i=>i=g) w).setCell (p:=⟨g,o,none⟩) (.inr rfl) x) (fun i e=>by subst e;omega)
end
theorem Q7e:∀(es:List Qga) (k:Nat) (hk:k<es.length) (x:Int),Qha (es.set k ⟨x,es[k].path,es[k].name,es[k].value⟩)=(Qha es).set (k*4) (.int .i64 x)
 | n::T,0,_,_=>rfl
 | n::T,k+1,hk,x=>by
  have:=Q7e T k (by simpa using hk) x;rw[show(k+1)*4=k*4+1+1+1+1 from by omega];simp only[List.set_cons_succ,Qcb,List.getElem_cons_succ,List.cons_append,List.nil_append];rw[this]
theorem Q8e:∀(es:List Qga) (k:Nat) (hk:k<es.length) (x:ByteArray),Qha (es.set k ⟨es[k].kind,x,es[k].name,es[k].value⟩)=(Qha es).set (k*4+1) (.string x)
 | n::T,0,_,_=>rfl
 | n::T,k+1,hk,x=>by
  have:=Q8e T k (by simpa using hk) x;rw[show(k+1)*4+1=k*4+1+1+1+1+1 from by omega];simp only[List.set_cons_succ,Qcb,List.getElem_cons_succ,List.cons_append,List.nil_append];rw[this]
theorem Q9e:∀(es:List Qga) (k:Nat) (hk:k<es.length) (x:ByteArray),Qha (es.set k ⟨es[k].kind,es[k].path,x,es[k].value⟩)=(Qha es).set (k*4+2) (.string x)
 | n::T,0,_,_=>rfl
 | n::T,k+1,hk,x=>by
  have:=Q9e T k (by simpa using hk) x;rw[show(k+1)*4+2=k*4+2+1+1+1+1 from by omega];simp only[List.set_cons_succ,Qcb,List.getElem_cons_succ,List.cons_append,List.nil_append];rw[this]
theorem Qaf:∀(es:List Qga) (k:Nat) (hk:k<es.length) (x:ByteArray),Qha (es.set k ⟨es[k].kind,es[k].path,es[k].name,x⟩)=(Qha es).set (k*4+3) (.string x)
 | n::T,0,_,_=>rfl
 | n::T,k+1,hk,x=>by
  have:=Qaf T k (by simpa using hk) x;rw[show(k+1)*4+3=k*4+3+1+1+1+1 from by omega];simp only[List.set_cons_succ,Qcb,List.getElem_cons_succ,List.cons_append,List.nil_append];rw[this]
theorem QGh:∀(es:List Qga) (w:World) (g o:Nat),(∀(i:Nat) (h:i<es.length),Qie w g (o+i*4) es[i])→∀j u,(Qha es)[j]? = some u→w.cell? ⟨g,o+j,none⟩=some u
 | [],_,_,_,_,_,_,hu=>by simp[Qha]at hu
 | x::r,w,g,o,h,j,u,hu=>by
  rw[Qcb]at hu;obtain⟨q0,q1,q2,q3⟩:=h 0 (by simp)
  match j,hu with
  | 0,hu=>simp at hu;subst hu;exact q0
  | 1,hu=>simp at hu;subst hu;exact q1
  | 2,hu=>simp at hu;subst hu;exact q2
  | 3,hu=>simp at hu;subst hu;exact q3
  | j+4,hu=>
   rw[show o+(j+4)=o+4+j from by omega];refine QGh r w g (o+4) (fun i hi=>?_) j u (by simpa using hu);have:=h (i+1) (by simpa using hi);rw[show o+(i+1)*4=o+4+i*4 from by omega]at this;exact this
theorem Qtp{w:World}{a:Option Addr}{c:Nat}{es:List Qga}(h:QFa w (.slice a es.length c) es):Hid (∀wx,Qaa (fun _=>False) w wx→Src prog 4 29 (.slice a es.length c) es.length (Qha es) wx):=hid (fun wx hk=>by
 by_cases h0:es.length=0
 ·have he:es=[]:=List.length_eq_zero_iff.1 h0;subst he;rcases a with _|⟨g,o,f⟩
  ·exact Src.ofNil wx underlying29 c
  exact Src.ofSlice wx underlying29 ⟨g,o,f⟩ 0 c [] rfl (fun j u hu=>by simp at hu) (fun u hu=>by cases hu)
 obtain⟨g,o,rfl,hg,gj⟩:=Q7a h (by omega);refine Src.ofSlice wx underlying29 ⟨g,o,none⟩ es.length c (Qha es) (Q9b es) (fun j u hu=>?_) (Q3d es);have Gk:(⟨g,o,none⟩:Addr).add j=⟨g,o+j,none⟩:=by unfold Addr.add;split <;> simp_all
 rw[Gk];exact(hk.cell (p:=⟨g,o+j,none⟩) hg (fun e=>e)).trans (QGh es w g o gj j u hu))
theorem QGi.at{B b Z Rb g cap k:Nat}{nm:ByteArray}{es:List Qga}{W w:World}(h:QGi B b Z Rb nm (.slice (some ⟨g,0,none⟩) es.length cap) es W w)(hk:k<es.length):Qie w g (k*4) es[k]∧g<w.heap.size:=by
 obtain⟨a,b,c,d⟩:=Qye es k hk;have h4:=h.2.2.2.1;have hl:=Q9b es;exact⟨⟨by rw[h4.cellAt _ (by omega)];exact a,by rw[h4.cellAt _ (by omega)];exact b,by rw[h4.cellAt _ (by omega)];exact c,by rw[h4.cellAt _ (by omega)];exact d⟩,(h4.lt g rfl).2⟩
theorem QGi.frz{B b Z Rb g cap:Nat}{nm:ByteArray}{es:List Qga}{W w:World}(h:QGi B b Z Rb nm (.slice (some ⟨g,0,none⟩) es.length cap) es W w)(o:Nat):w.frozen? ⟨g,o,none⟩=false:=h.2.2.2.1.frozenAt _
def lBo:List ByteArray:=[⟨#[]⟩,⟨#[49]⟩,⟨#[97,32,98]⟩,⟨#[111,107]⟩]
def QMt:List ByteArray:=[⟨#[]⟩,⟨#[47]⟩,⟨#[47,47]⟩,⟨#[47,97,47]⟩,⟨#[97]⟩,⟨#[47,122,122]⟩,⟨#[47,97,47,49]⟩]
def QLt:List ByteArray:=[⟨#[]⟩,⟨#[112]⟩,⟨#[97,64,49]⟩,⟨#[122,122]⟩]
theorem QEk{s:ByteArray}(h:s∈lBo):s.size≤2000000:=by
 have:∀x∈lBo,x.size≤2000000:=by decide
 exact this s h
theorem QTn{s:ByteArray}(h:s∈QMt):s.size≤2000000:=by
 have:∀x∈QMt,x.size≤2000000:=by decide
 exact this s h
theorem QSn{s:ByteArray}(h:s∈QLt):s.size≤2000000:=by
 have:∀x∈QLt,x.size≤2000000:=by decide
 exact this s h
def Q4u(B b Z Rb N:Nat)(W:World)(_:Value)(w:World):Prop:=QRs B b Z Rb N W w
def QPo(B b N:Nat)(w:World)(e:Ending)(w':World):Prop:=
 ∃(nm:ByteArray) (v:Value) (es:List Qga),e=.returned (.agg #[.string nm,v])∧w'.ownsRow w.heap.size 39 4 v es.length (Qha es)∧Qyb es∧es.length≤N∧nm.size≤2000000∧QFb B w' b∧Qaa (fun i=>i=b) w w'
theorem QRs.post{B b Rb N:Nat}{W w:World}{nm:ByteArray}{a:Option Addr}{c:Nat}{es:List Qga}(hR:Holds w Rb #[.string ⟨#[]⟩,.slice none 0 0] 31)(h4:w.ownsRow W.heap.size 39 4 (.slice a es.length c) es.length (Qha es))(hz:Qyb es)(hl:es.length≤N)(hn:nm.size≤2000000)(hT:QFb B w b)(hK:Qaa (fun i=>i=b) W w)(hRb:W.heap.size≤Rb)(hb:b<W.heap.size) :
 ((w.setCell ⟨Rb,0,none⟩ (.string nm)).setCell ⟨Rb,1,none⟩ (.slice a es.length c)).cell? ⟨Rb,0,none⟩=some (.string nm)∧((w.setCell ⟨Rb,0,none⟩ (.string nm)).setCell ⟨Rb,1,none⟩ (.slice a es.length c)).cell? ⟨Rb,1,none⟩=some (.slice a es.length c)∧
 QPo B b N W (.returned (.agg #[.string nm,.slice a es.length c])) ((w.setCell ⟨Rb,0,none⟩ (.string nm)).setCell ⟨Rb,1,none⟩ (.slice a es.length c)):=by
 have h2:=(hR.set 0 (.string nm)).set 1 (.slice a es.length c);have dW:=hT.1;refine⟨h2.cell 0,h2.cell 1,nm,_,es,rfl,Qvc (Qvc h4 hR (by decide) 0 _) (hR.set 0 _) (by decide) 1 _,hz,hl,hn,?_,(hK.setCell (p:=⟨Rb,0,none⟩) (.inl hRb) _).setCell (p:=⟨Rb,1,none⟩) (.inl hRb) _⟩;exact hT.keeps (((Qaa.refl (fun i=>i=Rb) w).setCell (p:=⟨Rb,0,none⟩) (.inr rfl) _).setCell (p:=⟨Rb,1,none⟩) (.inr rfl) _) (fun i e=>by subst e;omega)
theorem QGi.more{B b Z Rb N g cap:Nat}{nm:ByteArray}{es:List Qga}{W w w5:World}{rv:Value}(h:QGi B b Z Rb nm (.slice (some ⟨g,0,none⟩) es.length cap) es W w)(hz:Qyb es)(h0:0<es.length)(hl:es.length+1≤N)(hs:nm.size≤2000000)
 (Hn:w5.ownsRow W.heap.size 39 4 rv (es.length+1) (Qha es++[.int .i64 es[0].kind,.string es[0].path,.string es[0].name,.string es[0].value])) (hK:Qaa (fun q=>(Value.slice (some ⟨g,0,none⟩) es.length cap).ownBlock=some q) w w5) (hZ:Holds w5 Z #[.string nm,.slice (some ⟨g,0,none⟩) es.length cap] 31) :
 QRs B b Z Rb N W (w5.setCell ⟨Z,1,none⟩ rv):=by
 obtain⟨h1,h2,h3,h4,h5,h6,h7,h8,h9⟩:=h;have ik:W.heap.size≤g:=(h4.lt g rfl).1;have dW:=h1.1;obtain⟨a,c,rfl⟩:=Qea Hn;have hlen:(es++[es[0]]).length=es.length+1:=by simp
 have gG:Qha (es++[es[0]])=Qha es++[.int .i64 es[0].kind,.string es[0].path,.string es[0].name,.string es[0].value]:=by rw[QVc,Qcb];simp[Qha]
 have k7:=h3.keeps hK (fun e=>Qla h4 h3 (by decide) e);have mA:=h1.keeps hK (fun i e=>by have:g=i:=Option.some.inj e;omega);refine⟨nm,a,c,es++[es[0]],by rw[hlen];exact hZ.set 1 _,k7.other _ _ h9,by rw[hlen,gG];exact Qvc Hn hZ (by decide) 1 _,fun x hx=>?_,by omega,hs,?_,?_⟩
 ·rcases List.mem_append.1 hx with hx|hx
  ·exact hz x hx
  simp at hx;subst hx;exact hz _ (List.getElem_mem _)
 ·exact mA.keeps ((Qaa.refl (fun i=>i=Z) w5).setCell (p:=⟨Z,1,none⟩) (.inr rfl) _) (fun i e=>by subst e;omega)
 exact(h5.trans hK (fun i hi e=>by have:g=i:=Option.some.inj e;omega)).setCell (p:=⟨Z,1,none⟩) (.inl h7) _
theorem Q5g(B b N:Nat)(nm:ByteArray)(sv:Value)(es:List Qga)(w:World)(hTp:QFb B w b)(hE:QFa w sv es)(hz:Qyb es)(hl:es.length+1≤N)(hN:N≤900)(Ht:nm.size≤2000000) :
 Calls prog 19 #[.pointer (some ⟨b,0,none⟩),.agg #[.string nm,sv]] w (QPo B b N w):=by
 obtain⟨a,cap,rfl,gy,gh⟩:=hE.slice;obtain⟨W0,gJ⟩:∃W0,W0=(w.alloc (.cells #[.string nm,.slice a es.length cap] 31)).alloc (.cells #[.string ⟨#[]⟩,.slice none 0 0] 31):=⟨_,rfl⟩;have He:Below w.heap.size w W0:=by rw[gJ];exact(Bq).alloc (by simp) _
 have Gb:Holds W0 w.heap.size #[.string nm,.slice a es.length cap] 31:=by rw[gJ];exact(Holds.new w #[.string nm,.slice a es.length cap] 31).alloc _
 have bL:Holds W0 (w.heap.size+1) #[.string ⟨#[]⟩,.slice none 0 0] 31:=by rw[gJ];exact Holds.newAt (w:=w.alloc (.cells #[.string nm,.slice a es.length cap] 31)) (B:=w.heap.size+1) (by simp) #[.string ⟨#[]⟩,.slice none 0 0] 31
 have tY:W0.heap.size=w.heap.size+1+1:=by rw[gJ];simp
 have mo:=Qtp (hE.new He);have aC:=hTp.lt;have nG:=hid hTp;have HZ:=hid hz;have HW:=hid gJ;clear hE hTp hz gJ;go_enter func19,ntmps19;go_upto_region 1 with fail;rw[←HW.o];refine wp_region_any (by kernel_rfl) ?_;refine QUa (ops':=Qed) (by kernel_rfl) ?_;refine Q9n w.heap.size es.length nm (.slice a es.length cap) (Qha es) W0 _ _ rfl mo (by omega) rfl ⟨Gb.drew,Nat.le_refl _⟩ ((Qaa.refl _ W0).drew) ?_;intro c w1 nB rv nZ gI h5 hq;obtain⟨Hn,Hb,Hm,hZ⟩:=hq;obtain⟨y5,y7,y8,y9,y10,y11,y12,y13,rfl⟩:=gI.ex [5,7,8,9,10,11,12,13] (by kernel_rfl);simp only[List.setIfInBounds_toArray,List.set_cons_zero,List.set_cons_succ]at h5 ⊢;have h5':y5=.pointer (some ⟨nZ,0,none⟩):=h5;subst h5';obtain⟨ra,rc,rfl⟩:=Qea Hn;have HS:=hid (show QGi B b nZ (w.heap.size+1) nm (.slice ra es.length rc) es w w1 from⟨nG.o.keeps (Qaa.of_fresh (He.trans (Hb.mono He.size)) (fun _=>False)) (fun _ e=>e.elim),hZ,bL.fr Hb,Q1b Hn (by omega),Qaa.of_fresh (He.trans (Hb.mono He.size)) _,aC,by omega,by omega,by omega⟩);have hnZ:w.heap.size≤nZ:=by omega
 clear Hn Hb Hm hZ gI h5 Gb bL He tY mo;have z0:=HS.o.2.1.cell 0;have z1:=HS.o.2.1.cell 1;have zf:=HS.o.2.1.free 0;have zl:=HS.o.2.1.lt;by_cases h0:es.length=0
 ·have hz:((es.length:Int)==0)=true:=by rw[h0];rfl
  go_wp2_with fail;refine(QUg B b 4 _ (by exact HS.o.1.new (Bq)) (by omega) (by omega)).mono ?_;rintro e w3 ⟨q,rfl,q0,q1,Gj,H9⟩;obtain⟨q,rfl⟩:=Int.eq_ofNat_of_zero_le q0;obtain⟨s,Gn,K5⟩:=QIc lBo q (by have:lBo.length=4:=rfl;omega);have GE:=hid ((HS.o.new ((Below.refl _ _).alloc (Nat.le_refl _) (.cells (lBo.map Value.string).toArray 9))).call Gj H9);have hH:=(Holds.new w1 (lBo.map Value.string).toArray 9).keeps H9 (by have:=HS.o.1.lt;omega);have hc:w3.cell? ⟨w1.heap.size,q,none⟩=some (.string s):=(hH.cell q).trans (by simp[Gn]);have gG:=hH.lt;clear hH Gj H9 z0 z1 zf zl;have z0:=GE.o.2.1.cell 0;have zf:=GE.o.2.1.free 0;have zl:=GE.o.2.1.lt;have hE:=hid (GE.o.name (N:=N) HZ.o (by omega) s (QEk K5));go_upto_region 4 with fail;obtain⟨w4,eX⟩:∃x,x=w3.setCell ⟨nZ,0,none⟩ (.string s):=⟨_,rfl⟩;rw[←eX]at hE ⊢;clear z0 zf zl eX hc;obtain⟨nm2,a2,c2,es2,hZ,hR,Hn,Jt,ke,ko,hT,hK⟩:=hE.o;have x0:=hZ.cell 0;have x1:=hZ.cell 1;have xl:=hZ.lt;have y0:=hR.cell 0;have y1:=hR.cell 1;have yf0:=hR.free 0;have yf1:=hR.free 1;have yl:=hR.lt;have HP:=hid (QRs.post hR Hn Jt ke ko hT hK (by omega) aC);clear hZ hR Hn Jt hT hK;go_wp2_with fail;obtain⟨q0,q1,hP⟩:=HP.o;exact bodyPost_ret (v:=.agg #[.string nm2,.slice a2 es2.length c2]) (by simp[results,Tryz.results19,go_sem,q0,q1]) rfl hP
 have hz:((es.length:Int)==0)=false:=by rw[beq_eq_false_iff_ne];omega
 obtain⟨g,rc2,bP,uA,Jk⟩:∃g c,Value.slice ra es.length rc=.slice (some ⟨g,0,none⟩) es.length c∧w.heap.size≤g∧g<w1.heap.size:=HS.o.2.2.2.1.form (by omega);cases bP;go_upto_region 5 with fail;have qx:=hid HS.o.drew;have wI:=hid HS.o.drew.1;have Mq:(1:Int)≤(es.length:Int):=by omega
 have mg:(es.length:Int)≤4611686018427387904:=by omega
 go_region_with (go_at_call 27;refine(QUg B b es.length _ (by exact wI.o) Mq mg).mono ?_;rintro e w2 ⟨k,rfl,k0,k1,g8,H3⟩;obtain⟨k,rfl⟩:=Int.eq_ofNat_of_zero_le k0;have x1:=(qx.o.call g8 H3).2.1.cell 1;have xl:=(qx.o.call g8 H3).2.1.lt)
 all_goals
  have cA:=hid (qx.o.call g8 H3);have hk:k<es.length:=by omega
  clear qx wI g8 H3 z0 z1 zf zl HS;go_wp2_with fail;refine(QUg B b 6 _ (by exact cA.o.1) (by omega) (by omega)).mono ?_;rintro e w3 ⟨c,rfl,c0,c1,g8,H3⟩;have Gp:=hid (cA.o.call g8 H3);clear cA g8 H3;go_upto_block 0 with fail;go_cut [41] (fun y wx=>Q4u B b nZ (w.heap.size+1) N w y wx)
  case first=>
   have Hw:c=0∨c=1∨c=2∨c=3∨c=4∨c=5:=by omega
   clear c0 c1;have lR:=HZ.o es[k] (List.getElem_mem hk);rcases Hw with rfl|rfl|rfl|rfl|rfl|rfl
   ·go_wp2_with fail;refine(Q6f B b 0 4 _ (by exact Gp.o.1) (by omega) (by omega) (by omega)).mono ?_;rintro e w4 ⟨r,rfl,r0,r1,Gj,H9⟩;have GE:=hid (Gp.o.call Gj H9);clear Gj H9;obtain⟨gj,GG⟩:=GE.o.at hk;obtain⟨n0,n1,n2,n3⟩:=gj;have f0:=GE.o.frz (k*4);have f1:=GE.o.frz (k*4+1);have f2:=GE.o.frz (k*4+2);have f3:=GE.o.frz (k*4+3);have hE:=hid (GE.o.cell (k:=k) (N:=N) HZ.o (by omega) Ht (k*4) (.int .i64 r) (y:=⟨r,es[k].path,es[k].name,es[k].value⟩) lR (Q7e es k hk r));go_wp2_with fail;go_meet;exact hE.o
   ·go_wp2_with fail;refine(QUg B b 7 _ (by exact Gp.o.1.new (Bq)) (by omega) (by omega)).mono ?_;rintro e w4 ⟨q,rfl,q0,q1,Gj,H9⟩;obtain⟨q,rfl⟩:=Int.eq_ofNat_of_zero_le q0;obtain⟨s,Gn,K5⟩:=QIc QMt q (by have:QMt.length=7:=rfl;omega);have GE:=hid ((Gp.o.new ((Below.refl _ _).alloc (Nat.le_refl _) (.cells (QMt.map Value.string).toArray 9))).call Gj H9);have hH:=(Holds.new w3 (QMt.map Value.string).toArray 9).keeps H9 (by have:=Gp.o.1.lt;omega);have hc:w4.cell? ⟨w3.heap.size,q,none⟩=some (.string s):=(hH.cell q).trans (by simp[Gn]);have gG:=hH.lt;clear hH Gj H9;obtain⟨gj,GG⟩:=GE.o.at hk;obtain⟨n0,n1,n2,n3⟩:=gj;have f0:=GE.o.frz (k*4);have f1:=GE.o.frz (k*4+1);have f2:=GE.o.frz (k*4+2);have f3:=GE.o.frz (k*4+3);have hE:=hid (GE.o.cell (k:=k) (N:=N) HZ.o (by omega) Ht (k*4+1) (.string s) (y:=⟨es[k].kind,s,es[k].name,es[k].value⟩) ⟨QTn K5,lR.2⟩ (Q8e es k hk s));go_wp2_with fail;go_meet;exact hE.o
   ·go_wp2_with fail;refine(QUg B b 4 _ (by exact Gp.o.1.new (Bq)) (by omega) (by omega)).mono ?_;rintro e w4 ⟨q,rfl,q0,q1,Gj,H9⟩;obtain⟨q,rfl⟩:=Int.eq_ofNat_of_zero_le q0;obtain⟨s,Gn,K5⟩:=QIc QLt q (by have:QLt.length=4:=rfl;omega);have GE:=hid ((Gp.o.new ((Below.refl _ _).alloc (Nat.le_refl _) (.cells (QLt.map Value.string).toArray 9))).call Gj H9);have hH:=(Holds.new w3 (QLt.map Value.string).toArray 9).keeps H9 (by have:=Gp.o.1.lt;omega);have hc:w4.cell? ⟨w3.heap.size,q,none⟩=some (.string s):=(hH.cell q).trans (by simp[Gn]);have gG:=hH.lt;clear hH Gj H9;obtain⟨gj,GG⟩:=GE.o.at hk;obtain⟨n0,n1,n2,n3⟩:=gj;have f0:=GE.o.frz (k*4);have f1:=GE.o.frz (k*4+1);have f2:=GE.o.frz (k*4+2);have f3:=GE.o.frz (k*4+3);have hE:=hid (GE.o.cell (k:=k) (N:=N) HZ.o (by omega) Ht (k*4+2) (.string s) (y:=⟨es[k].kind,es[k].path,s,es[k].value⟩) ⟨lR.1,QSn K5,lR.2.2⟩ (Q9e es k hk s));go_wp2_with fail;go_meet;exact hE.o
   ·go_wp2_with fail;have hH:=Holds.new w3 (([0,1,256,257]:List Int).map (Value.int .i64)).toArray 3;refine(QSh B b w3.heap.size 0 4 [0,1,256,257] _ (by exact Gp.o.1.new (Bq)) (by simp) (by simp) (by have:=Gp.o.1.lt;omega) (fun i hi=>QQj hH i hi)).mono ?_;rintro e w4 ⟨r,rfl,hr,Gj,H9⟩;have GE:=hid ((Gp.o.new ((Below.refl _ _).alloc (Nat.le_refl _) (.cells (([0,1,256,257]:List Int).map (Value.int .i64)).toArray 3))).call Gj H9);obtain⟨n,rfl,mg⟩:∃n:Nat,r=(n:Int)∧n≤257:=by
     simp at hr;rcases hr with rfl|rfl|rfl|rfl
     ·exact⟨0,rfl,by omega⟩
     ·exact⟨1,rfl,by omega⟩
     ·exact⟨256,rfl,by omega⟩
     exact⟨257,rfl,by omega⟩
    have bR:=QKi n (by omega);have dS:=hid (GE.o.new ((Below.refl _ _).alloc (Nat.le_refl _) (.cells (Array.replicate n (.int .u8 0)) 5)));obtain⟨acc,aw,jn⟩:=QLi w4 n w.heap.size GE.o.2.2.2.2.1.size mg;subst aw;have Mf:=Q3c jn;have hsz:(⟨acc.toArray⟩:ByteArray).size=acc.length:=by simp[ByteArray.size]
    clear hH Gj H9 hr jn;obtain⟨gj,GG⟩:=dS.o.at hk;obtain⟨n0,n1,n2,n3⟩:=gj;have f0:=dS.o.frz (k*4);have f1:=dS.o.frz (k*4+1);have f2:=dS.o.frz (k*4+2);have f3:=dS.o.frz (k*4+3);have hE:=hid (dS.o.cell (k:=k) (N:=N) HZ.o (by omega) Ht (k*4+3) (.string ⟨acc.toArray⟩) (y:=⟨es[k].kind,es[k].path,es[k].name,⟨acc.toArray⟩⟩) ⟨lR.1,lR.2.1,by show(⟨acc.toArray⟩:ByteArray).size≤_;omega⟩ (Qaf es k hk ⟨acc.toArray⟩));go_wp2_with fail;go_meet;exact hE.o
   ·go_upto_region 17 with fail;have gj:=(Gp.o.at (k:=0) (by omega)).1;refine wp_region_any (by kernel_rfl) ?_;refine QUa (ops':=QOb) (by kernel_rfl) ?_;refine QKj w.heap.size nZ es.length nm (.slice (some ⟨g,0,none⟩) es.length rc) (es[0]'(by omega)) es g rc w3 _ _ rfl (hid ⟨rfl,by omega⟩) Gp.o.2.2.2.1 (by omega) Gp.o.2.2.2.2.1.size rfl ⟨Gp.o.drew.2.1,(Gp.o.drew.at (k:=0) (by omega)).1⟩ ((Qaa.refl _ w3).drew) ?_;intro c w4 nB rv gI hq;obtain⟨w5,rfl,Hn,gW,gN⟩:=hq;obtain⟨y80,y81,y82,y83,y84,y85,y86,y87,y88,rfl⟩:=gI.ex [80,81,82,83,84,85,86,87,88] (by kernel_rfl);simp only[List.setIfInBounds_toArray,List.set_cons_zero,List.set_cons_succ];have hE:=hid (Gp.o.more (N:=N) HZ.o (by omega) (by omega) Ht Hn gW gN);clear Hn gW gN gI gj;go_wp2_with fail;go_meet;exact hE.o
   go_wp2_with fail;refine(QUg B b 4 _ (by exact Gp.o.1.new (Bq)) (by omega) (by omega)).mono ?_;rintro e w4 ⟨q,rfl,q0,q1,Gj,H9⟩;obtain⟨q,rfl⟩:=Int.eq_ofNat_of_zero_le q0;obtain⟨s,Gn,K5⟩:=QIc lBo q (by have:lBo.length=4:=rfl;omega);have GE:=hid ((Gp.o.new ((Below.refl _ _).alloc (Nat.le_refl _) (.cells (lBo.map Value.string).toArray 9))).call Gj H9);have hH:=(Holds.new w3 (lBo.map Value.string).toArray 9).keeps H9 (by have:=Gp.o.1.lt;omega);have hc:w4.cell? ⟨w3.heap.size,q,none⟩=some (.string s):=(hH.cell q).trans (by simp[Gn]);have gG:=hH.lt;clear hH Gj H9;have z0:=GE.o.2.1.cell 0;have zf:=GE.o.2.1.free 0;have zl:=GE.o.2.1.lt;have hE:=hid (GE.o.name (N:=N) HZ.o (by omega) s (QEk K5));go_wp2_with fail;go_meet;exact hE.o
  case rest=>
   obtain⟨nm2,a2,c2,es2,hZ,hR,Hn,Jt,ke,ko,hT,hK⟩:=hcut;have x0:=hZ.cell 0;have x1:=hZ.cell 1;have xl:=hZ.lt;have y0:=hR.cell 0;have y1:=hR.cell 1;have yf0:=hR.free 0;have yf1:=hR.free 1;have yl:=hR.lt;have HP:=hid (QRs.post hR Hn Jt ke ko hT hK (by omega) aC);clear hZ hR Hn Jt hT hK;go_wp2_with fail;obtain⟨q0,q1,hP⟩:=HP.o;exact bodyPost_ret (v:=.agg #[.string nm2,.slice a2 es2.length c2]) (by simp[results,Tryz.results19,go_sem,q0,q1]) rfl hP
def EdN(b:Nat)(w:World)(v:Value)(l:List Qga):Prop:=QFa w v l∧∀(g o:Nat) (f:Option Nat) (n c:Nat),v=.slice (some ⟨g,o,f⟩) n c→0<l.length→g≠b
def OvF(b:Nat)(nm:ByteArray)(v:Value)(es:List Qga)(w:World):Prop:=EdN b w v es∧Qyb es∧es.length≤500∧nm.size≤2000000
def Qir(b k:Nat)(u:Value)(w:World):Prop:=∃g,u=.slice (some ⟨g,0,none⟩) k k∧g≠b∧∀j:Nat,j<k→∃(nm:ByteArray) (a:Option Addr) (c:Nat) (es:List Qga),w.cell? ⟨g,j*2,none⟩=some (.string nm)∧w.cell? ⟨g,j*2+1,none⟩=some (.slice a es.length c)∧OvF b nm (.slice a es.length c) es w
def QKt(b:Nat)(u:Value)(w:World):Prop:=∃(nm:ByteArray) (a:Option Addr) (c:Nat) (es:List Qga),u=.agg #[.string nm,.slice a es.length c]∧OvF b nm (.slice a es.length c) es w
theorem EdN.keep{b:Nat}{w w':World}{v:Value}{l:List Qga}(h:EdN b w v l)(k:Qaa (fun i=>i=b) w w'):EdN b w' v l:=by
 obtain⟨⟨a,cap,rfl,h1,h2,h3⟩,hn⟩:=h;refine⟨⟨a,cap,rfl,h1,h2,fun h0=>?_⟩,hn⟩;obtain⟨g,o,rfl,hg,hc⟩:=h3 h0;have Hl:=hn g o none _ _ rfl h0;refine⟨g,o,rfl,Nat.lt_of_lt_of_le hg k.size,fun i hi=>?_⟩;obtain⟨q0,q1,q2,q3⟩:=hc i hi;exact⟨(k.cell (p:=⟨g,_,none⟩) hg Hl).trans q0,(k.cell (p:=⟨g,_,none⟩) hg Hl).trans q1,(k.cell (p:=⟨g,_,none⟩) hg Hl).trans q2,(k.cell (p:=⟨g,_,none⟩) hg Hl).trans q3⟩
theorem OvF.keep{b:Nat}{nm:ByteArray}{v:Value}{es:List Qga}{w w':World}(h:OvF b nm v es w)(k:Qaa (fun i=>i=b) w w'):OvF b nm v es w':=⟨h.1.keep k,h.2⟩
theorem Qir.keep{b n:Nat}{u:Value}{w w':World}(h:Qir b n u w)(k:Qaa (fun i=>i=b) w w'):Qir b n u w':=by
 obtain⟨g,h1,h2,h3⟩:=h;refine⟨g,h1,h2,fun j hj=>?_⟩;obtain⟨nm,a,c,X,h4,h5,h6⟩:=h3 j hj;exact⟨nm,a,c,X,(k.cell (p:=⟨g,j*2,none⟩) (World.block_lt_of_cell? w _ h4) h2).trans h4,(k.cell (p:=⟨g,j*2+1,none⟩) (World.block_lt_of_cell? w _ h5) h2).trans h5,h6.keep k⟩
theorem QKt.keep{b:Nat}{u:Value}{w w':World}(h:QKt b u w)(k:Qaa (fun i=>i=b) w w'):QKt b u w':=by
 obtain⟨nm,a,c,es,h1,h2⟩:=h;exact⟨nm,a,c,es,h1,h2.keep k⟩
noncomputable def Qjf:Array Oper:=(QPa (Tryz.f6.body.getD .skip) 6).getD #[]
theorem Qcv:Q0b .any Qjf=true:=by kernel_rfl
theorem QSk:QRb Qjf=true:=by kernel_rfl
theorem Qdu:Qjf.size=8:=by kernel_rfl
def QUs(b:Nat)(rn:ByteArray)(ra:Option Addr)(rc:Nat)(R:List Qga)(an:ByteArray)(aa:Option Addr)(ac:Nat)(A:List Qga)(j:Nat):Value→World→Prop:=match j with
 | 0=>fun u _=>u=.agg #[.string rn,.slice ra R.length rc]
 | 1=>fun u _=>u=.agg #[.string an,.slice aa A.length ac]
 | 2=>fun u _=>u=.pointer (some ⟨b,0,none⟩)
 | 3=>fun u _=>u=.agg #[.string an,.slice aa A.length ac]
 | 4=>fun u w=>QKt b u w
 | 5=>fun u w=>Qir b 3 u w
 | 6=>fun u _=>u=.int .i64 3
 | 7=>fun u _=>u=.int .i64 0
 | _=>fun _ _=>True
theorem QUs.keep{b:Nat}{rn:ByteArray}{ra:Option Addr}{rc:Nat}{R:List Qga}{an:ByteArray}{aa:Option Addr}{ac:Nat}{A:List Qga}{j:Nat}{u:Value}{w w':World}(h:QUs b rn ra rc R an aa ac A j u w)(k:Qaa (fun i=>i=b) w w'):QUs b rn ra rc R an aa ac A j u w':=by
 unfold QUs at *
 split at h
 all_goals first
  | exact h
  | exact QKt.keep h k
  | exact Qir.keep h k
theorem Qgm{Q:Exit→Act→World→Prop}(B Rb Ab:Nat)(b:Nat)(rn:ByteArray)(ra:Option Addr)(rc:Nat)(R:List Qga)(an:ByteArray)(aa:Option Addr)(ac:Nat)(A:List Qga)(W w:World)(Ac:Act)(hsz:Ac.tmps.size=161)
 (hRW:Holds W Rb #[.string rn,.slice ra R.length rc] 31) (hAW:Holds W Ab #[.string an,.slice aa A.length ac] 31) (hrb:Rb≠b) (KN:Ab≠b) (hAl:A.length≤200) (hRN:OvF b rn (.slice ra R.length rc) R W) (hAN:OvF b an (.slice aa A.length ac) A W)
 (ar:Ac.tmps.getD 4 undef=.pointer (some ⟨Rb,0,none⟩)) (aa':Ac.tmps.getD 9 undef=.pointer (some ⟨Ab,0,none⟩)) (at_:Ac.tmps.getD 7 undef=.pointer (some ⟨b,0,none⟩))
 (hS:QFb B w b∧Qaa (fun i=>i=b) W w)
 (hQ:∀c w',Qpb Qjf Ac c→QFb B w' b→Qaa (fun i=>i=b) W w'→Qir b 3 (c.tmps.getD 53 undef) w'→c.tmps.getD 54 undef=.int .i64 3→c.tmps.getD 55 undef=.int .i64 0→Q .normal c w') :
 wpAny prog .any Qjf Q Qjf.size (Array.replicate Qjf.size false) Ac w:=by
 refine QNa (fun l c wx=>QCd Qjf Ac (QUs b rn ra rc R an aa ac A) (fun wx=>QFb B wx b∧Qaa (fun i=>i=b) W wx) l c wx) Qcv ?hend ?Hk _ _ _ _ (by simp) (by simp) (QCd.start hS)
 case hend=>
  intro l c wx hI hl;have hh:∀k,k<8→l.getD k false=true:=fun k hk=>hl k (by rw[Qdu];exact hk);exact hQ c wx hI.1 hI.2.1.1 hI.2.1.2 (hI.fact 5 53 rfl (hh 5 (by decide))) (hI.fact 6 54 rfl (hh 6 (by decide))) (hI.fact 7 55 rfl (hh 7 (by decide)))
 intro l c wx hI i' op ho _ Ha K' hK';have hi:i'<8:=by rw[←Qdu];exact(Array.getElem?_eq_some_iff.1 ho).1
 simp only[Qjf,QPa,Tryz.f6,Option.getD_some,reduceIte,Nat.reduceEqDiff]at ho;have hS:=hI.2.1;have sx:=(hI.slot 4 (by kernel_rfl)).trans ar;have sa:=(hI.slot 9 (by kernel_rfl)).trans aa';have st:=(hI.slot 7 (by kernel_rfl)).trans at_;simp only[Array.getD_eq_getD_getElem?]at sx sa st;have GB:i'=0∨i'=1∨i'=2∨i'=3∨i'=4∨i'=5∨i'=6∨i'=7:=by omega
 rcases GB with rfl|rfl|rfl|rfl|rfl|rfl|rfl|rfl
 all_goals cases ho
 ·have c0:=(hRW.keeps hS.2 hrb).cell 0;have c1:=(hRW.keeps hS.2 hrb).cell 1;have cl:=(hRW.keeps hS.2 hrb).lt;go_simp;exact hK' _ _ (hI.step QSk 0 48 rfl (by rw[hsz];decide) _ _ rfl Ha hS (fun _ _ h=>h) rfl)
 ·have c0:=(hAW.keeps hS.2 KN).cell 0;have c1:=(hAW.keeps hS.2 KN).cell 1;have cl:=(hAW.keeps hS.2 KN).lt;go_simp;exact hK' _ _ (hI.step QSk 1 49 rfl (by rw[hsz];decide) _ _ rfl Ha hS (fun _ _ h=>h) rfl)
 ·go_simp;exact hK' _ _ (hI.step QSk 2 50 rfl (by rw[hsz];decide) _ _ rfl Ha hS (fun _ _ h=>h) rfl)
 ·have c0:=(hAW.keeps hS.2 KN).cell 0;have c1:=(hAW.keeps hS.2 KN).cell 1;have cl:=(hAW.keeps hS.2 KN).lt;go_simp;exact hK' _ _ (hI.step QSk 3 51 rfl (by rw[hsz];decide) _ _ rfl Ha hS (fun _ _ h=>h) rfl)
 ·have e1:=gE (hI.fact 2 50 rfl (Qma Ha 2 (by kernel_rfl)):c.tmps.getD 50 undef=.pointer (some ⟨b,0,none⟩));have e2:=gE (hI.fact 3 51 rfl (Qma Ha 3 (by kernel_rfl)):c.tmps.getD 51 undef=.agg #[.string an,.slice aa A.length ac]);have tw:=hAN.keep hS.2;go_simp;refine(Q5g B b 300 an (.slice aa A.length ac) A wx hS.1 tw.1.1 tw.2.1 (by omega) (by omega) tw.2.2.2).mono ?_;rintro e w2 ⟨bn,v2,D,rfl,Hn,Jt,Mp,ko,Kk,k2⟩;obtain⟨da,dc,rfl⟩:=Qea Hn;go_simp;have HJ:QFb B w2 b∧Qaa (fun i=>i=b) W w2:=⟨Kk,hS.2.trans k2 (fun _ _ e=>e)⟩;have jm:=hS.1.lt;exact hK' _ _ (hI.step QSk 4 52 rfl (by rw[hsz];decide) _ _ rfl Ha HJ (fun _ _ h=>QUs.keep h k2) ⟨bn,da,dc,D,rfl,⟨Q8c Hn,fun g o f n c e h0 e2=>by simp only[Value.slice.injEq]at e;obtain⟨rfl,_,_⟩:=e;have:=(Hn.lt g rfl).1;omega⟩,Jt,by omega,ko⟩)
 ·have e0:=gE (hI.fact 0 48 rfl (Qma Ha 0 (by kernel_rfl)):c.tmps.getD 48 undef=.agg #[.string rn,.slice ra R.length rc]);have e1:=gE (hI.fact 1 49 rfl (Qma Ha 1 (by kernel_rfl)):c.tmps.getD 49 undef=.agg #[.string an,.slice aa A.length ac]);obtain⟨bn,ba,bc,D,e2,hD⟩:QKt b (c.tmps.getD 52 undef) wx:=hI.fact 4 52 rfl (Qma Ha 4 (by kernel_rfl));simp only[Array.getD_eq_getD_getElem?]at e2;go_simp;have Hc:Below wx.heap.size wx (wx.alloc (.cells #[.string rn,.slice ra R.length rc,.string an,.slice aa A.length ac,.string bn,.slice ba D.length bc] 31)):=Bq;have k2:=Qaa.of_fresh Hc (fun i=>i=b);have HJ:QFb B (wx.alloc (.cells #[.string rn,.slice ra R.length rc,.string an,.slice aa A.length ac,.string bn,.slice ba D.length bc] 31)) b∧Qaa (fun i=>i=b) W (wx.alloc (.cells #[.string rn,.slice ra R.length rc,.string an,.slice aa A.length ac,.string bn,.slice ba D.length bc] 31)):=⟨hS.1.new Hc,hS.2.trans k2 (fun _ _ e=>e)⟩;have hL:=Holds.new wx #[.string rn,.slice ra R.length rc,.string an,.slice aa A.length ac,.string bn,.slice ba D.length bc] 31;have jm:=hS.1.lt;have hT:Qir b 3 (.slice (some ⟨wx.heap.size,0,none⟩) 3 3) (wx.alloc (.cells #[.string rn,.slice ra R.length rc,.string an,.slice aa A.length ac,.string bn,.slice ba D.length bc] 31)):=⟨wx.heap.size,rfl,by omega,fun j hj=>by
   have Ge:j=0∨j=1∨j=2:=by omega
   rcases Ge with rfl|rfl|rfl
   ·exact⟨rn,ra,rc,R,hL.cell 0,hL.cell 1,hRN.keep HJ.2⟩
   ·exact⟨an,aa,ac,A,hL.cell 2,hL.cell 3,hAN.keep HJ.2⟩
   exact⟨bn,ba,bc,D,hL.cell 4,hL.cell 5,hD.keep k2⟩⟩
  exact hK' _ _ (hI.step QSk 5 53 rfl (by rw[hsz];decide) _ _ rfl Ha HJ (fun _ _ h=>QUs.keep h k2) hT)
 ·obtain⟨lg,e0,hg⟩:Qir b 3 (c.tmps.getD 53 undef) wx:=hI.fact 5 53 rfl (Qma Ha 5 (by kernel_rfl));simp only[Array.getD_eq_getD_getElem?]at e0;go_simp;exact hK' _ _ (hI.step QSk 6 54 rfl (by rw[hsz];decide) _ _ rfl Ha hS (fun _ _ h=>h) rfl)
 go_simp;exact hK' _ _ (hI.step QSk 7 55 rfl (by rw[hsz];decide) _ _ rfl Ha hS (fun _ _ h=>h) rfl)
structure OwM(tb x4 x5 x8 x9 x10:Nat)(rn:ByteArray)(ra:Option Addr)(rc:Nat)(R:List Qga)(oa:Option Addr)(oc:Nat)(O:List Qba)(xa:Option Addr)(xc:Nat)(X:List Qba)(aa:Option Addr)(ac:Nat)(A:List Qga)(ba:Option Addr)(bc:Nat)(E:List Qga)(w:World):Prop where
 r:Holds w x4 #[.string rn,.slice ra R.length rc] 31
 o:Holds w x5 #[.slice oa O.length oc] 27
 x:Holds w x8 #[.slice xa X.length xc] 27
 a:Holds w x9 #[.string ⟨#[99,97,112,101]⟩,.slice aa A.length ac] 31
 b:Holds w x10 #[.string ⟨#[104,97,116]⟩,.slice ba E.length bc] 31
 fr:OvF tb rn (.slice ra R.length rc) R w
 fa:OvF tb ⟨#[99,97,112,101]⟩ (.slice aa A.length ac) A w
 fb:OvF tb ⟨#[104,97,116]⟩ (.slice ba E.length bc) E w
 no:Qoa (fun g=>g≠tb) w (.slice oa O.length oc) O
 nx:Qoa (fun g=>g≠tb) w (.slice xa X.length xc) X
 lay:Qah w
 ne:x4≠tb∧x5≠tb∧x8≠tb∧x9≠tb∧x10≠tb∧¬0=tb
theorem OwM.keep{tb x4 x5 x8 x9 x10:Nat}{rn:ByteArray}{ra:Option Addr}{rc:Nat}{R:List Qga}{oa:Option Addr}{oc:Nat}{O:List Qba}{xa:Option Addr}{xc:Nat}{X:List Qba}{aa:Option Addr}{ac:Nat}{A:List Qga}{ba:Option Addr}{bc:Nat}{E:List Qga}{w w':World}(h:OwM tb x4 x5 x8 x9 x10 rn ra rc R oa oc O xa xc X aa ac A ba bc E w)(k:Qaa (fun i=>i=tb) w w'):OwM tb x4 x5 x8 x9 x10 rn ra rc R oa oc O xa xc X aa ac A ba bc E w':=
 ⟨h.r.keeps k h.ne.1,h.o.keeps k h.ne.2.1,h.x.keeps k h.ne.2.2.1,h.a.keeps k h.ne.2.2.2.1,h.b.keeps k h.ne.2.2.2.2.1,h.fr.keep k,h.fa.keep k,h.fb.keep k,h.no.keeps k (fun _ h e=>h e),h.nx.keeps k (fun _ h e=>h e),h.lay.keeps k h.ne.2.2.2.2.2,h.ne⟩
theorem Q5l(nm:ByteArray)(a:Option Addr)(n c:Nat)(w:World) :
 Calls prog 17 #[.agg #[.string nm,.slice a n c]] w fun e w'=>e=.returned (.bool (decide (n≤60)))∧Below w.heap.size w w':=by
 have He:Below w.heap.size w (w.alloc (.cells #[.string nm,.slice a n c] 31)):=Bq;by_cases h:n≤60
 ·have hI:(n:Int)≤60:=by omega
  have HR:=hid (decide_eq_true h);generalize decide (n≤60)=q at *
  clear h;go_enter func17,ntmps17;go_wp2_with fail;go_ret;exact⟨by rw[HR.o];rfl,He⟩
 have hI:¬(n:Int)≤60:=by omega
 have HR:=hid (decide_eq_false h);generalize decide (n≤60)=q at *
 clear h;go_enter func17,ntmps17;go_wp2_with fail;go_ret;exact⟨by rw[HR.o];rfl,He⟩
theorem Qmm(rb base:Nat)(ov ev:Value)(es:List Qga)(x:Qga)(w:World)(hR:Holds w rb #[ov,ev] 120)(he:w.ownsRow base 39 4 ev es.length (Qha es))(Gc:es.any (Q2a x)=false)(aU:∀y∈es,x.kind≠y.kind)(hl:es.length≤30)(hb:base≤w.heap.size) :
 Calls prog 87 #[.pointer (some ⟨rb,0,none⟩),.agg #[.int .i64 x.kind,.string x.path,.string x.name,.string x.value]] w fun e w'=>∃ev',e=.returned (.int .i64 0)∧Holds w' rb #[ov,ev'] 120∧w'.ownsRow base 39 4 ev' (es.length+1) (Qha (es++[x]))∧Qaa (fun i=>i=rb∨ev.ownBlock=some i) w w':=by
 obtain⟨ea,ec,rfl⟩:=Qea he;have He:Below w.heap.size w (w.alloc (.cells #[.int .i64 x.kind,.string x.path,.string x.name,.string x.value] 39)):=Bq;have JM:=Holds.new w #[.int .i64 x.kind,.string x.path,.string x.name,.string x.value] 39;have jb:=hR.lt;have bL:=hR.fr He;have mB:=QLa he hR (by decide);have jW:=hid (Q7c 126 Qrk (Q2a x) w.heap.size (.slice ea es.length ec) es (w.alloc (.cells #[.int .i64 x.kind,.string x.path,.string x.name,.string x.value] 39)) (fun y _ wx G9=>Qot x y w.heap.size wx (JM.fr G9)) ((Q8c he).new He) (by omega));rw[Gc]at jW;have r1:=bL.cell 1;have rl:=bL.lt;have MB:=hid JM;have zu:=hid bL;have gK:=hid He;have HE:=hid he;have zj:=hid mB;have tF:¬((es.length:Int)=40):=by omega
 have hI40b:((es.length:Int)==40)=false:=by simpa using tF
 clear JM bL He Gc he hR mB;go_enter func87,ntmps87;go_wp2_with fail;refine Calls.mono (by exact jW.o) ?_;rintro e w1 ⟨rfl,Hb⟩;have Ky:=hid (MB.o.fr Hb);have Kx:=hid (zu.o.fr Hb);have Hq:=hid (gK.o.trans (Hb.mono gK.o.size));clear Hb r1 rl;go_upto_region 3 with fail;refine wp_region_any (by kernel_rfl) ?_;refine QUa (ops':=Qzi) (by kernel_rfl) ?_;refine Qdo rb w.heap.size ov (.slice ea es.length ec) x es w1 _ _ rfl aU (by omega) rfl rfl ⟨Kx.o,Ky.o,(Q8c HE.o).new Hq.o⟩ ((Below.refl _ _).drew) ?_;intro c w2 gI Jv Hc;obtain⟨y11,y12,y13,y14,y15,y16,rfl⟩:=gI.ex [11,12,13,14,15,16] (by kernel_rfl);simp only[List.setIfInBounds_toArray,List.set_cons_zero,List.set_cons_succ]at Jv ⊢;have sW:y16=.bool false:=Jv;subst sW;have j7:=hid (Ky.o.fr Hc);have j5:=hid (Kx.o.fr Hc);have gF:=hid (Hq.o.trans (Hc.mono Hq.o.size));have r1:=j5.o.cell 1;have rl:=j5.o.lt;clear Hc gI Jv;go_upto_region 7 with fail;refine wp_region_any (by kernel_rfl) ?_;refine QUa (ops':=Q8d) (by kernel_rfl) ?_;refine Qeo base rb w.heap.size es.length ov (.slice ea es.length ec) x (Qha es) w2 _ _ rfl (Qbb HE.o gF.o) (by omega) (by have:=gF.o.size;omega) zj.o (fun e=>by have:=(HE.o.lt _ e).2;omega) rfl rfl ⟨j5.o.drew,j7.o.drew⟩ ((Qaa.refl _ w2).drew) ?_;intro c w3 nB rv gI hq;obtain⟨w4,rfl,Hi,G7,JD⟩:=hq;obtain⟨y23,y24,y25,y26,y27,y28,y29,y30,y31,y32,rfl⟩:=gI.ex [23,24,25,26,27,28,29,30,31,32] (by kernel_rfl);simp only[List.setIfInBounds_toArray,List.set_cons_zero,List.set_cons_succ];have yP:=hid (JD.set 1 rv);have zm:=hid (Qca Hi ((Qaa.refl (· = rb) w4).setCell (p:=⟨rb,1,none⟩) (.inr rfl) rv) (fun g hg e=>QLa Hi JD (by decide) (by rw[hg,e])))
 have iV:=hid (((Qaa.of_fresh gF.o (fun i=>i=rb∨(Value.slice ea es.length ec).ownBlock=some i)).trans G7 (fun _ _ e=>.inr e)).setCell (p:=⟨rb,1,none⟩) (.inr (.inl rfl)) rv);clear Hi G7 JD gI r1 rl;go_wp2_with fail;go_ret;exact⟨rv,rfl,yP.o,by rw[QVc];exact zm.o,iV.o⟩
noncomputable def QXh:Array Oper:=(QPa (Tryz.f172.body.getD .skip) 4).getD #[]
theorem oiR:Q0b .any QXh=true:=by kernel_rfl
theorem QRk:QRb QXh=true:=by kernel_rfl
theorem QLu:QXh.size=17:=by kernel_rfl
theorem QQl:∀args w,(callFunc 53 args).run prog w=.ok (.enter 53 args) w:=enters_of func53 (by kernel_rfl) rfl
def OiF(g o kk q cap n:Nat)(y z:Qga)(j:Nat):Value→World→Prop:=match j with
 | 0=>fun u _=>u=.int .i64 (q:Int)
 | 1=>fun u _=>u=.int .i64 0
 | 2=>fun u _=>u=.bool true
 | 3=>fun u _=>u=.bool true
 | 4=>fun u _=>u=.func (.func 53) #[] #[]
 | 5=>fun u _=>u=.slice (some ⟨g,o,none⟩) n cap
 | 6=>fun u _=>u=.int .i64 (q:Int)
 | 7=>fun u _=>u=.pointer (some ⟨g,o+q*4,none⟩)
 | 8=>fun u _=>u=.agg #[.int .i64 y.kind,.string y.path,.string y.name,.string y.value]
 | 9=>fun u _=>u=.slice (some ⟨g,o,none⟩) n cap
 | 10=>fun u _=>u=.int .i64 (q:Int)
 | 11=>fun u _=>u=.int .i64 (kk:Int)
 | 12=>fun u _=>u=.pointer (some ⟨g,o+kk*4,none⟩)
 | 13=>fun u _=>u=.agg #[.int .i64 z.kind,.string z.path,.string z.name,.string z.value]
 | 14=>fun u _=>u=.int .i64 (QAh y z)
 | 15=>fun u _=>u=.bool false
 | 16=>fun u _=>u=.bool false
 | _=>fun _ _=>True
def OiC(g o kk q _ _:Nat)(y z:Qga)(w:World):Prop:=Qie w g (o+kk*4) z∧Qie w g (o+q*4) y
section
variable{g o kk q cap n:Nat}{y z:Qga}{w w':World}
theorem OiF.stable{j:Nat}{u:Value}(h:OiF g o kk q cap n y z j u w)(k:Below w.heap.size w w'):OiF g o kk q cap n y z j u w':=by
 unfold OiF at *
 split at h
 all_goals first
  | exact h
  | (obtain⟨nB,e,hh⟩:=h;exact⟨nB,e,hh.fr k⟩)
end
theorem Qfo{Q:Exit→Act→World→Prop}(g o kk q cap n:Nat)(y z:Qga)(W w:World)(A:Act)(hsz:A.tmps.size=53)(hq:Hid (q=kk+1))(hqn:q<n)(hn12:n≤1000)(de:¬QAh y z<0)
 (a0:A.tmps.getD 0 undef=.slice (some ⟨g,o,none⟩) n cap) (a1:A.tmps.getD 1 undef=.int .i64 0) (a3:A.tmps.getD 3 undef=.func (.func 53) #[] #[]) (a9:A.tmps.getD 9 undef=.int .i64 (q:Int)) (hC0:OiC g o kk q cap n y z W) (hE0:Below W.heap.size W w)
 (hQ:∀c w',Qpb QXh A c→c.tmps.getD 34 undef=.bool false→Below W.heap.size W w'→Q .normal c w') :
 wpAny prog .any QXh Q QXh.size (Array.replicate QXh.size false) A w:=by
 refine QNa (fun l c wx=>Qsb QXh A (OiF g o kk q cap n y z) (fun _=>True) l c wx∧Below W.heap.size W wx) oiR ?hend ?Hk _ _ _ _ (by simp) (by simp) ⟨Qsb.start trivial,hE0⟩
 case hend=>
  rintro l c wx ⟨hI,hS⟩ hl;have hh:∀k,k<17→l.getD k false=true:=fun k hk=>hl k (by rw[QLu];exact hk);exact hQ c wx hI.1.1 (hI.fact 16 34 rfl (hh 16 (by decide))) hS
 intro l c wx KV i' op ho hl Ha K' hK';obtain⟨hI,hS⟩:=KV;have ke:l.size=17:=by rw[hI.1.2.2.1.1,QLu]
 have hi':i'<17:=by rw[←QLu];exact(Array.getElem?_eq_some_iff.1 ho).1
 have Hf:=ho;simp only[QXh,QPa,Tryz.f172,Option.getD_some,reduceIte,Nat.reduceEqDiff]at ho;have s0:=(hI.slot 0 (by kernel_rfl)).trans a0;have s1:=(hI.slot 1 (by kernel_rfl)).trans a1;have s3:=(hI.slot 3 (by kernel_rfl)).trans a3;have s9:=(hI.slot 9 (by kernel_rfl)).trans a9;have fs:=And.intro True.intro True.intro;simp only[Array.getD_eq_getD_getElem?]at s0 s1 s3 s9;have MI:QXh[3]?.bind (fun x=>x.dst)=some 21:=by kernel_rfl
 have GB:i'=0∨i'=1∨i'=2∨i'=3∨i'=4∨i'=5∨i'=6∨i'=7∨i'=8∨i'=9∨i'=10∨i'=11∨i'=12∨i'=13∨i'=14∨i'=15∨i'=16:=by omega
 clear hi';rcases GB with rfl|rfl|rfl|rfl|rfl|rfl|rfl|rfl|rfl|rfl|rfl|rfl|rfl|rfl|rfl|rfl|rfl
 all_goals cases ho
 ·go_simp;exact hK' _ _ ⟨hI.st QRk 0 18 hsz Hf Ha rfl,hS⟩
 ·go_simp;exact hK' _ _ ⟨hI.st QRk 1 19 hsz Hf Ha rfl,hS⟩
 ·have f0:c.tmps.getD 18 undef=.int .i64 (q:Int):=hI.yf 0 18 17 Hf Ha;have e0:=gE f0;have f1:c.tmps.getD 19 undef=.int .i64 0:=hI.yf 1 19 17 Hf Ha;have e1:=gE f1;have hc:OiC g o kk q cap n y z wx:=⟨hC0.1.keep hS (World.block_lt_of_cell? W _ hC0.1.1),hC0.2.keep hS (World.block_lt_of_cell? W _ hC0.2.1)⟩;have lJ:(0:Int)<(q:Int):=by have:=hq.o;omega
  have pT:0<q:=by have:=hq.o;omega
  have KI:decide ((0:Int)<(q:Int))=true:=decide_eq_true lJ;have Az:decide (0<q)=true:=decide_eq_true pT;go_simp;exact hK' _ _ ⟨hI.st QRk 2 20 hsz Hf Ha rfl,hS⟩
 ·have f2:c.tmps.getD 20 undef=.bool true:=hI.yf 2 20 17 Hf Ha;have e2:=gE f2;go_simp;exact hK' _ _ ⟨hI.st QRk 3 21 hsz Hf Ha rfl,hS⟩
 ·have f3:c.tmps.getD 21 undef=.bool true:=hI.yf 3 21 17 Hf Ha;have e3:=gE f3;have g3:c.tmps[21]? = some (.bool true):=Q0a f3;go_simp
  try rw[if_pos (by rw[MI];simp only[Option.bind_some,g3])]
  exact hK' _ _ ⟨hI.st QRk 4 22 hsz Hf Ha rfl,hS⟩
 ·have f3:c.tmps.getD 21 undef=.bool true:=hI.yf 3 21 17 Hf Ha;have e3:=gE f3;have g3:c.tmps[21]? = some (.bool true):=Q0a f3;go_simp
  try rw[if_pos (by rw[MI];simp only[Option.bind_some,g3])]
  exact hK' _ _ ⟨hI.st QRk 5 23 hsz Hf Ha rfl,hS⟩
 ·have f3:c.tmps.getD 21 undef=.bool true:=hI.yf 3 21 17 Hf Ha;have e3:=gE f3;have g3:c.tmps[21]? = some (.bool true):=Q0a f3;go_simp
  try rw[if_pos (by rw[MI];simp only[Option.bind_some,g3])]
  exact hK' _ _ ⟨hI.st QRk 6 24 hsz Hf Ha rfl,hS⟩
 ·have f3:c.tmps.getD 21 undef=.bool true:=hI.yf 3 21 17 Hf Ha;have e3:=gE f3;have f5:c.tmps.getD 23 undef=.slice (some ⟨g,o,none⟩) n cap:=hI.yf 5 23 17 Hf Ha;have e5:=gE f5;have f6:c.tmps.getD 24 undef=.int .i64 (q:Int):=hI.yf 6 24 17 Hf Ha;have e6:=gE f6;have hc:OiC g o kk q cap n y z wx:=⟨hC0.1.keep hS (World.block_lt_of_cell? W _ hC0.1.1),hC0.2.keep hS (World.block_lt_of_cell? W _ hC0.2.1)⟩;have hb:(q:Int)<(n:Int):=by omega
  have g3:c.tmps[21]? = some (.bool true):=Q0a f3;go_simp
  try rw[if_pos (by rw[MI];simp only[Option.bind_some,g3])]
  exact hK' _ _ ⟨hI.st QRk 7 25 hsz Hf Ha rfl,hS⟩
 ·have f3:c.tmps.getD 21 undef=.bool true:=hI.yf 3 21 17 Hf Ha;have e3:=gE f3;have f7:c.tmps.getD 25 undef=.pointer (some ⟨g,o+q*4,none⟩):=hI.yf 7 25 17 Hf Ha;have e7:=gE f7;have hc:OiC g o kk q cap n y z wx:=⟨hC0.1.keep hS (World.block_lt_of_cell? W _ hC0.1.1),hC0.2.keep hS (World.block_lt_of_cell? W _ hC0.2.1)⟩;obtain⟨x0,x1,x2,x3⟩:=hc.2;have xl:=World.block_lt_of_cell? wx _ x0;have g3:c.tmps[21]? = some (.bool true):=Q0a f3;go_simp
  try rw[if_pos (by rw[MI];simp only[Option.bind_some,g3])]
  exact hK' _ _ ⟨hI.st QRk 8 26 hsz Hf Ha rfl,hS⟩
 ·have f3:c.tmps.getD 21 undef=.bool true:=hI.yf 3 21 17 Hf Ha;have e3:=gE f3;have g3:c.tmps[21]? = some (.bool true):=Q0a f3;go_simp
  try rw[if_pos (by rw[MI];simp only[Option.bind_some,g3])]
  exact hK' _ _ ⟨hI.st QRk 9 27 hsz Hf Ha rfl,hS⟩
 ·have f3:c.tmps.getD 21 undef=.bool true:=hI.yf 3 21 17 Hf Ha;have e3:=gE f3;have g3:c.tmps[21]? = some (.bool true):=Q0a f3;go_simp
  try rw[if_pos (by rw[MI];simp only[Option.bind_some,g3])]
  exact hK' _ _ ⟨hI.st QRk 10 28 hsz Hf Ha rfl,hS⟩
 ·have f3:c.tmps.getD 21 undef=.bool true:=hI.yf 3 21 17 Hf Ha;have e3:=gE f3;have f10:c.tmps.getD 28 undef=.int .i64 (q:Int):=hI.yf 10 28 17 Hf Ha;have e10:=gE f10;have hc:OiC g o kk q cap n y z wx:=⟨hC0.1.keep hS (World.block_lt_of_cell? W _ hC0.1.1),hC0.2.keep hS (World.block_lt_of_cell? W _ hC0.2.1)⟩;have hw:IntKind.i64.wrap ((q:Int)-1)=(kk:Int):=by rw[IntWalk.i64_in _ (by have:=hq.o;omega)];have:=hq.o;omega
  have g3:c.tmps[21]? = some (.bool true):=Q0a f3;go_simp
  try rw[if_pos (by rw[MI];simp only[Option.bind_some,g3])]
  exact hK' _ _ ⟨hI.st QRk 11 29 hsz Hf Ha rfl,hS⟩
 ·have f3:c.tmps.getD 21 undef=.bool true:=hI.yf 3 21 17 Hf Ha;have e3:=gE f3;have f9:c.tmps.getD 27 undef=.slice (some ⟨g,o,none⟩) n cap:=hI.yf 9 27 17 Hf Ha;have e9:=gE f9;have f11:c.tmps.getD 29 undef=.int .i64 (kk:Int):=hI.yf 11 29 17 Hf Ha;have e11:=gE f11;have hc:OiC g o kk q cap n y z wx:=⟨hC0.1.keep hS (World.block_lt_of_cell? W _ hC0.1.1),hC0.2.keep hS (World.block_lt_of_cell? W _ hC0.2.1)⟩;have hb:(kk:Int)<(n:Int):=by have:=hq.o;omega
  have g3:c.tmps[21]? = some (.bool true):=Q0a f3;go_simp
  try rw[if_pos (by rw[MI];simp only[Option.bind_some,g3])]
  exact hK' _ _ ⟨hI.st QRk 12 30 hsz Hf Ha rfl,hS⟩
 ·have f3:c.tmps.getD 21 undef=.bool true:=hI.yf 3 21 17 Hf Ha;have e3:=gE f3;have f12:c.tmps.getD 30 undef=.pointer (some ⟨g,o+kk*4,none⟩):=hI.yf 12 30 17 Hf Ha;have e12:=gE f12;have hc:OiC g o kk q cap n y z wx:=⟨hC0.1.keep hS (World.block_lt_of_cell? W _ hC0.1.1),hC0.2.keep hS (World.block_lt_of_cell? W _ hC0.2.1)⟩;obtain⟨x0,x1,x2,x3⟩:=hc.1;have xl:=World.block_lt_of_cell? wx _ x0;have g3:c.tmps[21]? = some (.bool true):=Q0a f3;go_simp
  try rw[if_pos (by rw[MI];simp only[Option.bind_some,g3])]
  exact hK' _ _ ⟨hI.st QRk 13 31 hsz Hf Ha rfl,hS⟩
 ·have f3:c.tmps.getD 21 undef=.bool true:=hI.yf 3 21 17 Hf Ha;have e3:=gE f3;have f4:c.tmps.getD 22 undef=.func (.func 53) #[] #[]:=hI.yf 4 22 17 Hf Ha;have e4:=gE f4;have f8:c.tmps.getD 26 undef=.agg #[.int .i64 y.kind,.string y.path,.string y.name,.string y.value]:=hI.yf 8 26 17 Hf Ha;have e8:=gE f8;have f13:c.tmps.getD 31 undef=.agg #[.int .i64 z.kind,.string z.path,.string z.name,.string z.value]:=hI.yf 13 31 17 Hf Ha;have e13:=gE f13;have hc:OiC g o kk q cap n y z wx:=⟨hC0.1.keep hS (World.block_lt_of_cell? W _ hC0.1.1),hC0.2.keep hS (World.block_lt_of_cell? W _ hC0.2.1)⟩;have kf:=QQl;have g3:c.tmps[21]? = some (.bool true):=Q0a f3;go_simp
  try rw[if_pos (by rw[MI];simp only[Option.bind_some,g3])]
  refine(Qae y z wx).mono ?_;rintro e w2 ⟨rfl,Hc⟩;exact hK' _ _ ⟨hI.step QRk 14 32 rfl (by rw[hsz];decide) _ _ Hf Ha trivial (fun _ _ h=>OiF.stable h Hc) rfl,hS.trans (Hc.mono hS.size)⟩
 ·have f3:c.tmps.getD 21 undef=.bool true:=hI.yf 3 21 17 Hf Ha;have e3:=gE f3;have f14:c.tmps.getD 32 undef=.int .i64 (QAh y z):=hI.yf 14 32 17 Hf Ha;have e14:=gE f14;have hc:OiC g o kk q cap n y z wx:=⟨hC0.1.keep hS (World.block_lt_of_cell? W _ hC0.1.1),hC0.2.keep hS (World.block_lt_of_cell? W _ hC0.2.1)⟩;have hn:=de;have g3:c.tmps[21]? = some (.bool true):=Q0a f3;go_simp
  try rw[if_pos (by rw[MI];simp only[Option.bind_some,g3])]
  exact hK' _ _ ⟨hI.st QRk 15 33 hsz Hf Ha rfl,hS⟩
 have f3:c.tmps.getD 21 undef=.bool true:=hI.yf 3 21 17 Hf Ha;have e3:=gE f3;have f15:c.tmps.getD 33 undef=.bool false:=hI.yf 15 33 17 Hf Ha;have e15:=gE f15;go_simp;exact hK' _ _ ⟨hI.st QRk 16 34 hsz Hf Ha rfl,hS⟩
theorem Qjp{l:List Qga}(ha:Qck l=true){k:Nat}(h:k+1<l.length):¬QAh l[k+1] l[k]<0:=by
 have h1:=List.pairwise_iff_getElem.1 (Qqh l ha) k (k+1) (by omega) h (by omega);have h2:=Qhp l[k+1] l[k];have h3:ltE l[k+1] l[k]=false:=by
  cases e:ltE l[k+1] l[k]with
  | false=>rfl
  | true=>exact absurd ⟨rfl,rfl⟩ (QTp (QKk h1 e))
 rw[h3]at h2;have:0≤QAh l[k+1] l[k]:=by simpa using h2
 omega
theorem QMp(v:Value)(l:List Qga)(w:World)(hE:QFa w v l)(ha:Qck l=true)(hl:l.length≤12)(hp:0<l.length) :
 Calls prog 172 #[v,.int .i64 0,.int .i64 l.length,.func (.func 53) #[] #[]] w fun e w'=>e=.returned (.tuple #[])∧Below w.heap.size w w':=by
 obtain⟨a,cap,rfl,gy,gh⟩:=hE.slice;have HE:=hid hE;have HA:=hid ha;clear hE ha;go_enter func172,ntmps172;go_wp2_with fail;go_loopg [8] (l.length) (fun f x wr=>∃k:Nat,x=.int .i64 ((k+1:Nat):Int)∧k+1≤l.length∧l.length≤k+1+f∧Hid (Below w.heap.size w wr))
 case atStart=>exact⟨0,rfl,by omega,by omega,hid (Below.refl _ _)⟩
 case round=>
  obtain⟨k,rfl,hk,hf,HB⟩:=hrel;by_cases Hh:k+1<l.length
  ·have Mg:((k+1:Nat):Int)<(l.length:Int):=by omega
   have uN:(0:Int)<((k+1:Nat):Int):=by omega
   obtain⟨g,o,e1,hg,Hw⟩:=Q7a (HE.o.new HB.o) (by omega);subst e1;obtain⟨d0,d1,d2,d3⟩:=Hw k (by omega);obtain⟨b0,b1,b2,b3⟩:=Hw (k+1) Hh;have de:=Qjp HA.o Hh;have HD:=hid (Hw k (by omega));have vV:=hid (Hw (k+1) Hh);clear Hw d0 d1 d2 d3 b0 b1 b2 b3;generalize l[k+1]=y at *
   generalize l[k]=z at *
   obtain⟨q,hq⟩:∃q,q=k+1:=⟨_,rfl⟩;rw[←hq]at vV Mg uN ⊢;have HQ:=hid hq;have hw:IntKind.i64.wrap ((q:Int)-1)=(k:Int):=by rw[IntWalk.i64_in _ (by omega)];omega
   have dz:(k:Int)<(l.length:Int):=by omega
   clear hq;obtain⟨go,rfl⟩:∃x:Nat,x=gk:=⟨_,rfl⟩;obtain⟨wo,rfl⟩:∃x:World,x=wr:=⟨_,rfl⟩;go_wp2_with fail;go_loopg [9] 0 (fun _ x wr=>x=.int .i64 (q:Int)∧wo=wr)
   case atStart=>exact⟨rfl,rfl⟩
   case round=>
    obtain⟨rfl,rfl⟩:=hrel;go_upto_region 4 with fail;refine wp_region_any (by kernel_rfl) ?_;refine QUa (ops':=QXh) (by kernel_rfl) ?_;refine Qfo g o k q cap l.length y z wo _ _ rfl HQ (by omega) (by omega) (by omega) rfl rfl rfl rfl ⟨HD.o,vV.o⟩ ((Below.refl _ _).drew) ?_;intro c w3 gI Ml Hg;obtain⟨y18,y19,y20,y21,y22,y23,y24,y25,y26,y27,y28,y29,y30,y31,y32,y33,y34,rfl⟩:=gI.ex [18,19,20,21,22,23,24,25,26,27,28,29,30,31,32,33,34] (by kernel_rfl);simp only[List.setIfInBounds_toArray,List.set_cons_zero,List.set_cons_succ]at Ml ⊢;have fB:y34=.bool false:=Ml;subst fB;have kC:=hid (HB.o.trans (Hg.mono HB.o.size));clear gI Ml Hg;go_wp2_with fail;go_roundg (go-1)
    case measure=>omega
    case rel=>exact⟨k+1,by have:=HQ.o;go_num,by have:=HQ.o;omega,by have:=HQ.o;omega,kC⟩
  have Mg:¬((k+1:Nat):Int)<(l.length:Int):=by omega
  go_wp2_with fail
  go_end0
  exact⟨rfl,HB.o⟩
theorem Qmq(v:Value)(l:List Qga)(lim:Int)(w:World)(hE:QFa w v l)(ha:Qck l=true)(hl:l.length≤12)(hp:0<l.length) :
 Calls prog 128 #[v,.int .i64 0,.int .i64 l.length,.int .i64 lim,.func (.func 53) #[] #[]] w fun e w'=>e=.returned (.tuple #[])∧Below w.heap.size w w':=by
 obtain⟨a,cap,rfl,gy,gh⟩:=hE.slice;have HI:=hid (QMp (.slice a l.length cap) l w hE ha hl hp);have hl12:(l.length:Int)≤12:=by omega
 clear hE ha;go_enter func128,ntmps128;go_wp2_with fail;go_loopg [1,2] 0 (fun _ x y wr=>x=.int .i64 0∧y=.int .i64 l.length∧w=wr)
 case atStart=>exact⟨rfl,rfl,rfl⟩
 case round=>
  obtain⟨rfl,rfl,rfl⟩:=hrel;go_wp2_with fail;refine Calls.mono (by exact HI.o) ?_;rintro e w1 ⟨rfl,Hb⟩;go_wp2_with fail;exact bodyPost_ret (v:=.tuple #[]) (by simp[results,Tryz.results128,go_sem]) rfl ⟨rfl,Hb⟩
theorem QBo(v:Value)(l:List Qga)(w:World)(hE:QFa w v l)(ha:Qck l=true)(hl:l.length≤12)(hp:0<l.length) :
 Calls prog 88 #[v,.func (.func 53) #[] #[]] w fun e w'=>e=.returned (.tuple #[])∧Below w.heap.size w w':=by
 obtain⟨a,cap,rfl,gy,gh⟩:=hE.slice;have HI:=hid (fun lim=>Qmq (.slice a l.length cap) l lim w hE ha hl hp);have HL:=hid (Tryz.bits_Len (l.length:Int) w (by omega) (by omega));clear hE ha;go_enter func88,ntmps88;go_wp2_with fail;refine Calls.mono (by exact HL.o) ?_;rintro e w1 ⟨rfl,rfl⟩;go_wp2_with fail;refine Calls.mono (by exact HI.o _) ?_;rintro e w2 ⟨rfl,Hc⟩;go_wp2_with fail
 go_end0
 exact⟨rfl,Hc⟩
def awE:List Qga:=[⟨1,⟨#[47,97]⟩,⟨#[]⟩,⟨#[]⟩⟩,⟨2,⟨#[47,97]⟩,⟨#[112]⟩,⟨#[0,0,0,1]⟩⟩,⟨3,⟨#[47,97]⟩,⟨#[113]⟩,⟨#[]⟩⟩]
theorem Q2o{w:World}{base:Nat}{v:Value}(h:QLb w base 0 v [⟨1,⟨#[]⟩,⟨#[47]⟩,[],1,1⟩,⟨1,⟨#[]⟩,⟨#[97]⟩,[],1,5⟩,⟨3,⟨#[]⟩,⟨#[112]⟩,[⟨1,[⟨1,⟨#[]⟩⟩],⟨#[]⟩⟩],1,9⟩,⟨4,⟨#[]⟩,⟨#[113]⟩,[],1,18⟩,⟨2,⟨#[]⟩,⟨#[]⟩,[],1,39⟩,⟨2,⟨#[]⟩,⟨#[]⟩,[],1,42⟩]) :
 ∃g c,v=.slice (some ⟨g,0,none⟩) 6 c∧g<w.heap.size∧∀k,k<6→∃(kd:Int) (nm:ByteArray) (pv:Value) (d5 d6:Int),w.cell? ⟨g,k*7,none⟩=some (.int .i64 kd)∧w.cell? ⟨g,k*7+1,none⟩=some (.string ⟨#[]⟩)∧w.cell? ⟨g,k*7+2,none⟩=some (.string nm)∧w.cell? ⟨g,k*7+3,none⟩=some pv∧w.cell? ⟨g,k*7+4,none⟩=some (.int .i64 0)∧w.cell? ⟨g,k*7+5,none⟩=some (.int .i64 d5)∧w.cell? ⟨g,k*7+6,none⟩=some (.int .i64 d6)∧
  ((k=0∧kd=1∧nm=⟨#[47]⟩)∨(k=1∧kd=1∧nm=⟨#[97]⟩)∨(k=2∧kd=3∧nm=⟨#[112]⟩)∨(k=3∧kd=4∧nm=⟨#[113]⟩)∨(k=4∧kd=2∧nm=⟨#[]⟩)∨(k=5∧kd=2∧nm=⟨#[]⟩))∧
  (∃a n c,pv=.slice a n c)∧∀wx,Below w.heap.size w wx→Calls prog 123 #[pv] wx fun e w'=>e=.returned (.tuple #[.string (if k=2 then⟨#[0,0,0,1]⟩else⟨#[]⟩),.bool true])∧Below wx.heap.size wx w':=by
 obtain⟨g,c,rfl,hg,hk⟩:=Q6s h (by decide);refine⟨g,c,rfl,hg,fun k mJ=>?_⟩;have mT:k=0∨k=1∨k=2∨k=3∨k=4∨k=5:=by omega
 have nilv:∀pv,QVa w base pv []→(∃a n c,pv=.slice a n c)∧∀wx,Below w.heap.size w wx→Calls prog 123 #[pv] wx fun e w'=>e=.returned (.tuple #[.string ⟨#[]⟩,.bool true])∧Below wx.heap.size wx w':=by
  intro pv hp;obtain⟨vs,hl,hr,_⟩:=hp;obtain⟨a,c,rfl⟩:=Qea hr;exact⟨⟨a,_,c,rfl⟩,fun wx _=>Q4q a c wx⟩
 rcases mT with rfl|rfl|rfl|rfl|rfl|rfl
 ·obtain⟨pv,b0,b1,b2,b3,b4,b5,b6,hp⟩:=hk 0 (by decide);obtain⟨n1,n2⟩:=nilv pv hp;exact⟨_,_,pv,_,_,b0,b1,b2,b3,b4,b5,b6,by simp,n1,n2⟩
 ·obtain⟨pv,b0,b1,b2,b3,b4,b5,b6,hp⟩:=hk 1 (by decide);obtain⟨n1,n2⟩:=nilv pv hp;exact⟨_,_,pv,_,_,b0,b1,b2,b3,b4,b5,b6,by simp,n1,n2⟩
 ·obtain⟨pv,b0,b1,b2,b3,b4,b5,b6,hp⟩:=hk 2 (by decide);obtain⟨g2,c2,rfl,Jk,mC⟩:=Q5r hp (by decide);obtain⟨cv,e0,e1,e2,q9⟩:=mC 0 (by decide);obtain⟨g3,c3,rfl,uB,gd⟩:=QGr q9 (by decide);obtain⟨f0,f1⟩:=gd 0 (by decide);refine⟨_,_,_,_,_,b0,b1,b2,b3,b4,b5,b6,by simp,⟨_,_,_,rfl⟩,fun wx hb=>?_⟩;have kp:=Qaa.of_fresh hb (fun _=>False);exact Q5q g2 g3 c3 c2 wx ((kp.cell (p:=⟨g2,0,none⟩) Jk (fun e=>e)).trans e0) ((kp.cell (p:=⟨g2,1,none⟩) Jk (fun e=>e)).trans e1) ((kp.cell (p:=⟨g2,2,none⟩) Jk (fun e=>e)).trans e2) ((kp.cell (p:=⟨g3,0,none⟩) uB (fun e=>e)).trans f0) ((kp.cell (p:=⟨g3,1,none⟩) uB (fun e=>e)).trans f1) (Nat.lt_of_lt_of_le Jk hb.size) (Nat.lt_of_lt_of_le uB hb.size)
 ·obtain⟨pv,b0,b1,b2,b3,b4,b5,b6,hp⟩:=hk 3 (by decide);obtain⟨n1,n2⟩:=nilv pv hp;exact⟨_,_,pv,_,_,b0,b1,b2,b3,b4,b5,b6,by simp,n1,n2⟩
 ·obtain⟨pv,b0,b1,b2,b3,b4,b5,b6,hp⟩:=hk 4 (by decide);obtain⟨n1,n2⟩:=nilv pv hp;exact⟨_,_,pv,_,_,b0,b1,b2,b3,b4,b5,b6,by simp,n1,n2⟩
 obtain⟨pv,b0,b1,b2,b3,b4,b5,b6,hp⟩:=hk 5 (by decide);obtain⟨n1,n2⟩:=nilv pv hp;exact⟨_,_,pv,_,_,b0,b1,b2,b3,b4,b5,b6,by simp,n1,n2⟩
def opK:Nat→List ByteArray
 | 1=>[⟨#[47]⟩]
 | 2=>[⟨#[47]⟩,⟨#[47,97]⟩]
 | 3=>[⟨#[47]⟩,⟨#[47,97]⟩]
 | 4=>[⟨#[47]⟩,⟨#[47,97]⟩]
 | 5=>[⟨#[47]⟩]
 | _=>[]
def esK:Nat→List Qga
 | 0=>[]
 | 1=>[]
 | 2=>awE.take 1
 | 3=>awE.take 2
 | _=>awE
structure RdK(W1 wr:World)(rb k:Nat)(ov ev:Value):Prop where
 hr:Holds wr rb #[ov,ev] 120
 ho:wr.ownsRow W1.heap.size 9 1 ov (opK k).length (QBc (opK k))
 he:wr.ownsRow W1.heap.size 39 4 ev (esK k).length (Qha (esK k))
 hb:Below W1.heap.size W1 wr
 hrb:W1.heap.size≤rb
theorem RdK.fresh{W1 wr w':World}{rb k:Nat}{ov ev:Value}(h:RdK W1 wr rb k ov ev)(b:Below wr.heap.size wr w'):RdK W1 w' rb k ov ev:=
 ⟨h.hr.fr b,Qbb h.ho b,Qbb h.he b,h.hb.trans (b.mono h.hb.size),h.hrb⟩
theorem RdK.alloc{W1 wr:World}{rb k:Nat}{ov ev:Value}(h:RdK W1 wr rb k ov ev)(o:Obj):RdK W1 (wr.alloc o) rb k ov ev:=h.fresh (Bq)
def plP(t:Tok):Prop:=t.kind≠3∧t.kind≠5∧t.kind≠6∧(t.kind=4→t.text≠[40]∧t.text≠[91])∧(t.kind=7→t.text=[100,101,108,101,116,101,45,112,114,111,112,101,114,116,121])
instance(t:Tok):Decidable (plP t):=by unfold plP;infer_instance
theorem Qeu{l:List Tok}(h:l.all (fun t=>decide (plP t))=true):Pln l:=by
 have hm:∀t∈l,plP t:=fun t ht=>of_decide_eq_true (List.all_eq_true.1 h t ht);have ht:∀i,plP (tkN l i):=by
  intro i;unfold tkN;rw[List.getD_eq_getElem?_getD];cases hg:l[i]? with
  | none=>exact(by decide:plP ⟨8,[],0,0,0⟩)
  | some t=>exact hm t (List.mem_of_getElem? hg)
 have h7:∀i s,s≠[100,101,108,101,116,101,45,112,114,111,112,101,114,116,121]→s≠[]→isK l i 7 s=false:=by
  intro i s h1 h2;unfold isK;by_cases e:(tkN l i).kind=7
  ·rw[(ht i).2.2.2.2 e];cases s with
   | nil=>exact absurd rfl h2
   | cons a b=>simp only[List.isEmpty_cons,Bool.false_or,decide_eq_false (Ne.symm h1),Bool.and_false]
  rw[decide_eq_false e,Bool.false_and]
 refine⟨?_,fun i=>(ht i).1,fun i=>(ht i).2.1,fun i=>(ht i).2.2.1,fun i=>?_,fun i=>h7 i _ (by decide) (by decide),fun i=>h7 i _ (by decide) (by decide)⟩
 ·intro i hi;unfold QKd at hi;rw[List.getElem?_map]at hi;cases hg:l[i]? with
  | none=>rw[hg]at hi;cases hi
  | some t=>
   rw[hg]at hi;simp only[Option.map_some]at hi;by_cases h4:(tkX t).1=4
   ·rw[if_pos h4]at hi;have h5:t.text=[40]:=by
     have:=congrArg (fun b=>b.data.toList) hi;simpa[tkX]using this
    exact((hm t (List.mem_of_getElem? hg)).2.2.2.1 h4).1 h5
   rw[if_neg h4]at hi;cases hi
 unfold isK;by_cases e:(tkN l i).kind=4
 ·simp only[List.isEmpty_cons,Bool.false_or,decide_eq_false ((ht i).2.2.2.1 e).2,Bool.and_false]
 rw[decide_eq_false e,Bool.false_and]
theorem Q1s:Pln (QZc (⟨Qdk.toArray⟩:ByteArray).data.toList 0).1:=Qeu (by kernel_rfl)
theorem Qjo(w:World)(lay:Qah w) :
 Calls prog 40 #[.string ⟨#[99,97,112,101]⟩,.string ⟨Qdk.toArray⟩] w fun e w'=>∃ev,e=.returned (.tuple #[.agg #[.string ⟨#[99,97,112,101]⟩,ev],.agg #[.int .i64 0,.int .i64 0,.int .i64 0],.int .i64 0])∧w'.ownsRow w.heap.size 39 4 ev awE.length (Qha awE)∧Below w.heap.size w w':=by
 have HN:=hid (fun wx=>Qac ⟨#[99,97,112,101]⟩ wx (by decide));rw[show QTa (⟨#[99,97,112,101]⟩:ByteArray).data.toList=true from by decide]at HN;obtain⟨W0,gM⟩:∃x,x=(w.alloc (.cells #[.string ⟨#[]⟩,.slice none 0 0] 31)).alloc (.cells #[.int .i64 0,.int .i64 0,.int .i64 0] 79):=⟨_,rfl⟩;have He:Below w.heap.size w W0:=by rw[gM];exact(Bq).alloc (by simp) _
 have kR:Holds W0 w.heap.size #[.string ⟨#[]⟩,.slice none 0 0] 31:=by rw[gM];exact(Holds.new w _ _).alloc _
 have qM:Holds W0 (w.heap.size+1) #[.int .i64 0,.int .i64 0,.int .i64 0] 79:=by rw[gM];exact Holds.newAt (w:=w.alloc (.cells #[.string ⟨#[]⟩,.slice none 0 0] 31)) (B:=w.heap.size+1) (by simp) _ _
 have kA:=Qvm ⟨Qdk.toArray⟩ 0 W0 (by decide) (by exact Q1s) (lay.fr He);unfold QAl QYk at kA;rw[show(⟨Qdk.toArray⟩:ByteArray).data.toList=Qdk from rfl,Qyn]at kA;have j6:=hid kA;have gK:=hid He;have jh:=hid kR;have zo:=hid qM;have qz:=hid gM;obtain⟨txt,qg⟩:∃x,x=(⟨Qdk.toArray⟩:ByteArray):=⟨_,rfl⟩;rw[←qg]at j6 ⊢;clear kA He kR qM gM lay qg;go_enter func40,ntmps40;go_wp2_with fail;refine Calls.mono (by exact HN.o _) ?_;rintro e w1 ⟨rfl,rfl⟩;go_wp2_with fail;rw[←qz.o];refine Calls.mono (by exact j6.o) ?_;rintro e w1 ⟨v,rfl,hD,Hb⟩;obtain⟨g,c,rfl,hg,Ha⟩:=Q2o hD;have fc:=hid Ha;have Hq:=hid (gK.o.trans (Hb.mono gK.o.size));have kO:=hid (jh.o.fr Hb);have wB:=hid (zo.o.fr Hb);clear hD Hb Ha j6 qz;go_wp2_with fail;have nJ:=((Holds.new (w1.alloc (.cells #[.int .i64 0,.int .i64 0,.int .i64 0] 79)) #[.slice none 0 0,.slice none 0 0] 120));rw[show(w1.alloc (.cells #[.int .i64 0,.int .i64 0,.int .i64 0] 79)).heap.size=w1.heap.size+1 from by simp]at nJ;have xz:RdK w1 ((w1.alloc (.cells #[.int .i64 0,.int .i64 0,.int .i64 0] 79)).alloc (.cells #[.slice none 0 0,.slice none 0 0] 120)) (w1.heap.size+1) 0 (.slice none 0 0) (.slice none 0 0):=⟨nJ,World.ownsRow_nil _ _ _ _,World.ownsRow_nil _ _ _ _,(Bq).alloc (by simp) _,by omega⟩;have wi:=hid xz;clear nJ xz;go_loopg [36] 6 (fun f x wr=>∃(k:Nat) (ov ev:Value),x=.int .i64 k∧k≤6∧6≤k+f∧Hid (RdK w1 wr (w1.heap.size+1) k ov ev))
 case atStart=>exact⟨0,_,_,rfl,by omega,by omega,wi⟩
 case round=>
  obtain⟨k,ov,ev,rfl,hk,hf,HK⟩:=hrel;by_cases mJ:k<6
  ·obtain⟨kd,nm,pv,d5,d6,b0,b1,b2,b3,b4,b5,b6,Hw,Kf,Gg⟩:=fc.o k mJ;obtain⟨pa,pn,pc,rfl⟩:=Kf;have kp:=Qaa.of_fresh HK.o.hb (fun _=>False);have c0:=(kp.cell (p:=⟨g,k*7,none⟩) hg (fun e=>e)).trans b0;have c1:=(kp.cell (p:=⟨g,k*7+1,none⟩) hg (fun e=>e)).trans b1;have c2:=(kp.cell (p:=⟨g,k*7+2,none⟩) hg (fun e=>e)).trans b2;have c3:=(kp.cell (p:=⟨g,k*7+3,none⟩) hg (fun e=>e)).trans b3;have c4:=(kp.cell (p:=⟨g,k*7+4,none⟩) hg (fun e=>e)).trans b4;have c5:=(kp.cell (p:=⟨g,k*7+5,none⟩) hg (fun e=>e)).trans b5;have c6:=(kp.cell (p:=⟨g,k*7+6,none⟩) hg (fun e=>e)).trans b6;have cl:g<wr.heap.size:=Nat.lt_of_lt_of_le hg HK.o.hb.size;clear b0 b1 b2 b3 b4 b5 b6 kp;rcases Hw with⟨rfl,rfl,rfl⟩|⟨rfl,rfl,rfl⟩|⟨rfl,rfl,rfl⟩|⟨rfl,rfl,rfl⟩|⟨rfl,rfl,rfl⟩|⟨rfl,rfl,rfl⟩
   ·have MJ:=True.intro;have HV:=hid (show ∀wx,Below w1.heap.size w1 wx→Calls prog 123 #[.slice pa pn pc] wx fun e w'=>e=.returned (.tuple #[.string ⟨#[]⟩,.bool true])∧Below wx.heap.size wx w' from fun wx hb=>by have h5:=Gg wx hb;rw[if_neg (by decide)]at h5;exact h5);have HA:=hid (HK.o.alloc (.cells #[.int .i64 1,.string ⟨#[]⟩,.string ⟨#[47]⟩,.slice pa pn pc,.int .i64 0,.int .i64 d5,.int .i64 d6] 123));have MZ:=hid (Qrp (w1.heap.size+1) w1.heap.size ov ev (.slice pa pn pc) ⟨#[47]⟩ ⟨#[]⟩ 0 d5 d6 (wr.alloc (.cells #[.int .i64 1,.string ⟨#[]⟩,.string ⟨#[47]⟩,.slice pa pn pc,.int .i64 0,.int .i64 d5,.int .i64 d6] 123)) (HA.o.hr) (fun wx G9=>HV.o wx (HA.o.hb.trans (G9.mono HA.o.hb.size))) ⟨_,_,_,rfl⟩ (by decide) (by decide) HA.o.hb.size (by obtain⟨a,c,e⟩:=Qea HA.o.ho;exact⟨a,c,e⟩));clear Gg;go_wp2_with fail;refine Calls.mono (by exact MZ.o) ?_;rintro e w5 ⟨ov',rfl,k7,KX,gW⟩;obtain⟨ova,ovc,rfl⟩:=Qea KX;have Kl:RdK w1 w5 (w1.heap.size+1) 1 (.slice ova 1 ovc) ev:=⟨k7,KX,(Qca HA.o.he gW (fun g hg e=>QLa HA.o.he HA.o.hr (by decide) (by rw[hg,e]))),(HA.o.hb.trans (gW.below HA.o.hb.size (fun i hi e=>by omega))),by omega⟩;have je:=hid (Kl.alloc (.cells #[.int .i64 0,.string ⟨#[]⟩,.string ⟨#[]⟩,.string ⟨#[]⟩] 39));clear k7 KX gW Kl;go_wp2_with fail;go_roundg (gk-1)
    case measure=>omega
    case rel=>exact⟨1,_,_,by go_num,by omega,by omega,je⟩
   ·have MJ:=True.intro;have HV:=hid (show ∀wx,Below w1.heap.size w1 wx→Calls prog 123 #[.slice pa pn pc] wx fun e w'=>e=.returned (.tuple #[.string ⟨#[]⟩,.bool true])∧Below wx.heap.size wx w' from fun wx hb=>by have h5:=Gg wx hb;rw[if_neg (by decide)]at h5;exact h5);have HA:=hid (HK.o.alloc (.cells #[.int .i64 1,.string ⟨#[]⟩,.string ⟨#[97]⟩,.slice pa pn pc,.int .i64 0,.int .i64 d5,.int .i64 d6] 123));have MZ:=hid (Qop (w1.heap.size+1) w1.heap.size ov ev (.slice pa pn pc) ⟨#[97]⟩ ⟨#[]⟩ 0 d5 d6 [] ⟨#[47]⟩ ⟨#[]⟩ ⟨#[47]⟩ ⟨#[47,97]⟩ (wr.alloc (.cells #[.int .i64 1,.string ⟨#[]⟩,.string ⟨#[97]⟩,.slice pa pn pc,.int .i64 0,.int .i64 d5,.int .i64 d6] 123)) (HA.o.hr) (fun wx G9=>HV.o wx (HA.o.hb.trans (G9.mono HA.o.hb.size))) ⟨_,_,_,rfl⟩ (by decide) (by decide) HA.o.hb.size HA.o.ho (by decide) (by decide) (Qoj [] [47] (by decide)) (Qoj [47] [97] (by decide)) (by decide));clear Gg;go_wp2_with fail;refine Calls.mono (by exact MZ.o) ?_;rintro e w5 ⟨ov',rfl,k7,KX,gW⟩;obtain⟨ova,ovc,rfl⟩:=Qea KX;replace KX:w5.ownsRow w1.heap.size 9 1 (.slice ova 2 ovc) 2 (QBc [⟨#[47]⟩,⟨#[47,97]⟩]):=KX;have kT:=k7.alloc (.cells #[.int .i64 1,.string ⟨#[47,97]⟩,.string ⟨#[]⟩,.string ⟨#[]⟩] 39);have Kt:=World.ownsRow.alloc KX (.cells #[.int .i64 1,.string ⟨#[47,97]⟩,.string ⟨#[]⟩,.string ⟨#[]⟩] 39);have J7:=World.ownsRow.alloc (Qca HA.o.he gW (fun g hg e=>by rcases e with e|e;exact QLa HA.o.he HA.o.hr (by decide) (by rw[hg,e]);rcases Q5c HA.o.he HA.o.ho (by decide)with q|q;rw[q]at hg;cases hg;exact q (by rw[hg,e]))) (.cells #[.int .i64 1,.string ⟨#[47,97]⟩,.string ⟨#[]⟩,.string ⟨#[]⟩] 39)
    have jF:=(HA.o.hb.trans (gW.below HA.o.hb.size (fun i hi e=>by rcases e with e|e;omega;have:=(HA.o.ho.lt _ e).1;omega))).alloc ((HA.o.hb.trans (gW.below HA.o.hb.size (fun i hi e=>by rcases e with e|e;omega;have:=(HA.o.ho.lt _ e).1;omega)))).size (.cells #[.int .i64 1,.string ⟨#[47,97]⟩,.string ⟨#[]⟩,.string ⟨#[]⟩] 39);have mr:=hid (Qmm (w1.heap.size+1) w1.heap.size (.slice ova 2 ovc) ev (esK 1) ⟨1,⟨#[47,97]⟩,⟨#[]⟩,⟨#[]⟩⟩ _ kT J7 (by kernel_rfl) (by unfold esK;decide) (by decide) jF.size);have ji:=hid kT;have Mk:=hid Kt;have kN:=hid J7;have Mt:=hid jF;clear k7 KX gW kT Kt J7 jF;go_wp2_with fail;refine Calls.mono (by exact mr.o) ?_;rintro e w7 ⟨ev',rfl,M6,ed,mE⟩;have M5:RdK w1 w7 (w1.heap.size+1) 2 (.slice ova 2 ovc) ev':=⟨M6,Qca Mk.o mE (fun g hg e=>by rcases e with e|e;exact QLa Mk.o ji.o (by decide) (by rw[hg,e]);rcases Q5c Mk.o kN.o (by decide)with q|q;rw[q]at hg;cases hg;exact q (by rw[hg,e])),ed,Mt.o.trans (mE.below Mt.o.size (fun i hi e=>by rcases e with e|e;omega;have:=(kN.o.lt _ e).1;omega)),by omega⟩;have fm:=hid M5;clear M6 ed mE M5;go_wp2_with fail;go_roundg (gk-1)
    case measure=>omega
    case rel=>exact⟨2,_,_,by go_num,by omega,by omega,fm⟩
   ·have MJ:=True.intro;have HV:=hid (show ∀wx,Below w1.heap.size w1 wx→Calls prog 123 #[.slice pa pn pc] wx fun e w'=>e=.returned (.tuple #[.string ⟨#[0,0,0,1]⟩,.bool true])∧Below wx.heap.size wx w' from fun wx hb=>by have h5:=Gg wx hb;rw[if_pos rfl]at h5;exact h5);have HA:=hid (HK.o.alloc (.cells #[.int .i64 3,.string ⟨#[]⟩,.string ⟨#[112]⟩,.slice pa pn pc,.int .i64 0,.int .i64 d5,.int .i64 d6] 123));have MZ:=hid (Qpp (w1.heap.size+1) w1.heap.size ov ev (.slice pa pn pc) ⟨#[112]⟩ ⟨#[0,0,0,1]⟩ 0 d5 d6 [⟨#[47]⟩] ⟨#[47,97]⟩ (wr.alloc (.cells #[.int .i64 3,.string ⟨#[]⟩,.string ⟨#[112]⟩,.slice pa pn pc,.int .i64 0,.int .i64 d5,.int .i64 d6] 123)) (HA.o.hr) (fun wx G9=>HV.o wx (HA.o.hb.trans (G9.mono HA.o.hb.size))) ⟨_,_,_,rfl⟩ (by decide) (by decide) HA.o.hb.size HA.o.ho (by decide));clear Gg;go_wp2_with fail;refine Calls.mono (by exact MZ.o) ?_;rintro e w5 ⟨rfl,k7,gW⟩;have kT:=k7.alloc (.cells #[.int .i64 2,.string ⟨#[47,97]⟩,.string ⟨#[112]⟩,.string ⟨#[0,0,0,1]⟩] 39);have Kt:=World.ownsRow.alloc (Qca HA.o.ho gW (fun g hg e=>QLa HA.o.ho HA.o.hr (by decide) (by rw[hg,e]))) (.cells #[.int .i64 2,.string ⟨#[47,97]⟩,.string ⟨#[112]⟩,.string ⟨#[0,0,0,1]⟩] 39);have J7:=World.ownsRow.alloc (Qca HA.o.he gW (fun g hg e=>QLa HA.o.he HA.o.hr (by decide) (by rw[hg,e]))) (.cells #[.int .i64 2,.string ⟨#[47,97]⟩,.string ⟨#[112]⟩,.string ⟨#[0,0,0,1]⟩] 39);have jF:=(HA.o.hb.trans (gW.below HA.o.hb.size (fun i hi e=>by omega))).alloc ((HA.o.hb.trans (gW.below HA.o.hb.size (fun i hi e=>by omega)))).size (.cells #[.int .i64 2,.string ⟨#[47,97]⟩,.string ⟨#[112]⟩,.string ⟨#[0,0,0,1]⟩] 39)
    have mr:=hid (Qmm (w1.heap.size+1) w1.heap.size ov ev (esK 2) ⟨2,⟨#[47,97]⟩,⟨#[112]⟩,⟨#[0,0,0,1]⟩⟩ _ kT J7 (by kernel_rfl) (by unfold esK;decide) (by decide) jF.size);have ji:=hid kT;have Mk:=hid Kt;have kN:=hid J7;have Mt:=hid jF;clear k7 gW kT Kt J7 jF;go_wp2_with fail;refine Calls.mono (by exact mr.o) ?_;rintro e w7 ⟨ev',rfl,M6,ed,mE⟩;have M5:RdK w1 w7 (w1.heap.size+1) 3 ov ev':=⟨M6,Qca Mk.o mE (fun g hg e=>by rcases e with e|e;exact QLa Mk.o ji.o (by decide) (by rw[hg,e]);rcases Q5c Mk.o kN.o (by decide)with q|q;rw[q]at hg;cases hg;exact q (by rw[hg,e])),ed,Mt.o.trans (mE.below Mt.o.size (fun i hi e=>by rcases e with e|e;omega;have:=(kN.o.lt _ e).1;omega)),by omega⟩;have fm:=hid M5;clear M6 ed mE M5;go_wp2_with fail;go_roundg (gk-1)
    case measure=>omega
    case rel=>exact⟨3,_,_,by go_num,by omega,by omega,fm⟩
   ·have MJ:=True.intro;have HV:=hid (show ∀wx,Below w1.heap.size w1 wx→Calls prog 123 #[.slice pa pn pc] wx fun e w'=>e=.returned (.tuple #[.string ⟨#[]⟩,.bool true])∧Below wx.heap.size wx w' from fun wx hb=>by have h5:=Gg wx hb;rw[if_neg (by decide)]at h5;exact h5);have HA:=hid (HK.o.alloc (.cells #[.int .i64 4,.string ⟨#[]⟩,.string ⟨#[113]⟩,.slice pa pn pc,.int .i64 0,.int .i64 d5,.int .i64 d6] 123));have MZ:=hid (QPr (w1.heap.size+1) w1.heap.size ov ev (.slice pa pn pc) ⟨#[113]⟩ ⟨#[]⟩ 0 d5 d6 [⟨#[47]⟩] ⟨#[47,97]⟩ (wr.alloc (.cells #[.int .i64 4,.string ⟨#[]⟩,.string ⟨#[113]⟩,.slice pa pn pc,.int .i64 0,.int .i64 d5,.int .i64 d6] 123)) (HA.o.hr) (fun wx G9=>HV.o wx (HA.o.hb.trans (G9.mono HA.o.hb.size))) ⟨_,_,_,rfl⟩ (by decide) (by decide) HA.o.hb.size HA.o.ho (by decide));clear Gg;go_wp2_with fail;refine Calls.mono (by exact MZ.o) ?_;rintro e w5 ⟨rfl,k7,gW⟩;have kT:=k7.alloc (.cells #[.int .i64 3,.string ⟨#[47,97]⟩,.string ⟨#[113]⟩,.string ⟨#[]⟩] 39);have Kt:=World.ownsRow.alloc (Qca HA.o.ho gW (fun g hg e=>QLa HA.o.ho HA.o.hr (by decide) (by rw[hg,e]))) (.cells #[.int .i64 3,.string ⟨#[47,97]⟩,.string ⟨#[113]⟩,.string ⟨#[]⟩] 39);have J7:=World.ownsRow.alloc (Qca HA.o.he gW (fun g hg e=>QLa HA.o.he HA.o.hr (by decide) (by rw[hg,e]))) (.cells #[.int .i64 3,.string ⟨#[47,97]⟩,.string ⟨#[113]⟩,.string ⟨#[]⟩] 39);have jF:=(HA.o.hb.trans (gW.below HA.o.hb.size (fun i hi e=>by omega))).alloc ((HA.o.hb.trans (gW.below HA.o.hb.size (fun i hi e=>by omega)))).size (.cells #[.int .i64 3,.string ⟨#[47,97]⟩,.string ⟨#[113]⟩,.string ⟨#[]⟩] 39)
    have mr:=hid (Qmm (w1.heap.size+1) w1.heap.size ov ev (esK 3) ⟨3,⟨#[47,97]⟩,⟨#[113]⟩,⟨#[]⟩⟩ _ kT J7 (by kernel_rfl) (by unfold esK;decide) (by decide) jF.size);have ji:=hid kT;have Mk:=hid Kt;have kN:=hid J7;have Mt:=hid jF;clear k7 gW kT Kt J7 jF;go_wp2_with fail;refine Calls.mono (by exact mr.o) ?_;rintro e w7 ⟨ev',rfl,M6,ed,mE⟩;have M5:RdK w1 w7 (w1.heap.size+1) 4 ov ev':=⟨M6,Qca Mk.o mE (fun g hg e=>by rcases e with e|e;exact QLa Mk.o ji.o (by decide) (by rw[hg,e]);rcases Q5c Mk.o kN.o (by decide)with q|q;rw[q]at hg;cases hg;exact q (by rw[hg,e])),ed,Mt.o.trans (mE.below Mt.o.size (fun i hi e=>by rcases e with e|e;omega;have:=(kN.o.lt _ e).1;omega)),by omega⟩;have fm:=hid M5;clear M6 ed mE M5;go_wp2_with fail;go_roundg (gk-1)
    case measure=>omega
    case rel=>exact⟨4,_,_,by go_num,by omega,by omega,fm⟩
   ·have MJ:=True.intro;have HV:=hid (show ∀wx,Below w1.heap.size w1 wx→Calls prog 123 #[.slice pa pn pc] wx fun e w'=>e=.returned (.tuple #[.string ⟨#[]⟩,.bool true])∧Below wx.heap.size wx w' from fun wx hb=>by have h5:=Gg wx hb;rw[if_neg (by decide)]at h5;exact h5);have HA:=hid (HK.o.alloc (.cells #[.int .i64 2,.string ⟨#[]⟩,.string ⟨#[]⟩,.slice pa pn pc,.int .i64 0,.int .i64 d5,.int .i64 d6] 123));have MZ:=hid (QVm (w1.heap.size+1) w1.heap.size ov ev (.slice pa pn pc) ⟨#[]⟩ ⟨#[]⟩ 0 d5 d6 [⟨#[47]⟩] ⟨#[47,97]⟩ (wr.alloc (.cells #[.int .i64 2,.string ⟨#[]⟩,.string ⟨#[]⟩,.slice pa pn pc,.int .i64 0,.int .i64 d5,.int .i64 d6] 123)) (HA.o.hr) (fun wx G9=>HV.o wx (HA.o.hb.trans (G9.mono HA.o.hb.size))) ⟨_,_,_,rfl⟩ (by decide) (by decide) HA.o.hb.size HA.o.ho (by decide));clear Gg;go_wp2_with fail;refine Calls.mono (by exact MZ.o) ?_;rintro e w5 ⟨ov',rfl,k7,KX,gW⟩;obtain⟨ova,ovc,rfl⟩:=Qea KX;have Kl:RdK w1 w5 (w1.heap.size+1) 5 (.slice ova 1 ovc) ev:=⟨k7,KX,(Qca HA.o.he gW (fun g hg e=>QLa HA.o.he HA.o.hr (by decide) (by rw[hg,e]))),(HA.o.hb.trans (gW.below HA.o.hb.size (fun i hi e=>by omega))),by omega⟩;have je:=hid (Kl.alloc (.cells #[.int .i64 0,.string ⟨#[]⟩,.string ⟨#[]⟩,.string ⟨#[]⟩] 39));clear k7 KX gW Kl;go_wp2_with fail;go_roundg (gk-1)
    case measure=>omega
    case rel=>exact⟨5,_,_,by go_num,by omega,by omega,je⟩
   have MJ:=True.intro;have HV:=hid (show ∀wx,Below w1.heap.size w1 wx→Calls prog 123 #[.slice pa pn pc] wx fun e w'=>e=.returned (.tuple #[.string ⟨#[]⟩,.bool true])∧Below wx.heap.size wx w' from fun wx hb=>by have h5:=Gg wx hb;rw[if_neg (by decide)]at h5;exact h5);have HA:=hid (HK.o.alloc (.cells #[.int .i64 2,.string ⟨#[]⟩,.string ⟨#[]⟩,.slice pa pn pc,.int .i64 0,.int .i64 d5,.int .i64 d6] 123));have MZ:=hid (QVm (w1.heap.size+1) w1.heap.size ov ev (.slice pa pn pc) ⟨#[]⟩ ⟨#[]⟩ 0 d5 d6 [] ⟨#[47]⟩ (wr.alloc (.cells #[.int .i64 2,.string ⟨#[]⟩,.string ⟨#[]⟩,.slice pa pn pc,.int .i64 0,.int .i64 d5,.int .i64 d6] 123)) (HA.o.hr) (fun wx G9=>HV.o wx (HA.o.hb.trans (G9.mono HA.o.hb.size))) ⟨_,_,_,rfl⟩ (by decide) (by decide) HA.o.hb.size HA.o.ho (by decide));clear Gg;go_wp2_with fail;refine Calls.mono (by exact MZ.o) ?_;rintro e w5 ⟨ov',rfl,k7,KX,gW⟩;obtain⟨ova,ovc,rfl⟩:=Qea KX;have Kl:RdK w1 w5 (w1.heap.size+1) 6 (.slice ova 0 ovc) ev:=⟨k7,KX,(Qca HA.o.he gW (fun g hg e=>QLa HA.o.he HA.o.hr (by decide) (by rw[hg,e]))),(HA.o.hb.trans (gW.below HA.o.hb.size (fun i hi e=>by omega))),by omega⟩;have je:=hid (Kl.alloc (.cells #[.int .i64 0,.string ⟨#[]⟩,.string ⟨#[]⟩,.string ⟨#[]⟩] 39));clear k7 KX gW Kl;go_wp2_with fail;go_roundg (gk-1)
   case measure=>omega
   case rel=>exact⟨6,_,_,by go_num,by omega,by omega,je⟩
  obtain rfl:k=6:=by omega
  obtain⟨ea,ec,rfl⟩:=Qea HK.o.he;have xu:QFa wr (.slice ea 3 ec) awE:=Q8c (l:=awE) HK.o.he;have HS:=hid (QBo (.slice ea 3 ec) awE wr xu (by kernel_rfl) (by decide) (by decide));have z0:=HK.o.hr.cell 1;have zl:=HK.o.hr.lt;clear xu;go_wp2_with fail;refine Calls.mono (by exact HS.o) ?_;rintro e w3 ⟨rfl,Hg⟩;have GH:=HK.o.fresh Hg;have y0:=GH.hr.cell 1;have yl:=GH.hr.lt;have ho:=kO.o.fr GH.hb;have hp:=wB.o.fr GH.hb;have dP:=hid GH;have bB:=hid ho;have zp:=hid hp;have o0:=ho.cell 0;have o1:=ho.cell 1;have of0:=ho.free 0;have of1:=ho.free 1;have ol:=ho.lt;have p0:=hp.cell 0;have p1:=hp.cell 1;have p2:=hp.cell 2;have pf0:=hp.free 0;have pf1:=hp.free 1;have pf2:=hp.free 2;have pl:=hp.lt;clear Hg GH ho hp z0 zl;go_wp2_with fail;have hz:=((((bB.o.set 0 (.string ⟨#[99,97,112,101]⟩)).set 1 (.slice ea (esK 6).length ec)).other ⟨w.heap.size+1,0,none⟩ (.int .i64 0) (by simp)).other ⟨w.heap.size+1,1,none⟩ (.int .i64 0) (by simp)).other ⟨w.heap.size+1,2,none⟩ (.int .i64 0) (by simp);have hy:=((((zp.o.other ⟨w.heap.size,0,none⟩ (.string ⟨#[99,97,112,101]⟩) (by simp)).other ⟨w.heap.size,1,none⟩ (.slice ea (esK 6).length ec) (by simp)).set 0 (.int .i64 0)).set 1 (.int .i64 0)).set 2 (.int .i64 0);have Gq:=Hq.o.trans (dP.o.hb.mono Hq.o.size);have jO:=Gq.size;have pC:=Hq.o.size;have Ai:w3.ownsRow w.heap.size 39 4 (.slice ea (esK 6).length ec) awE.length (Qha awE):=Qvd dP.o.he pC;have hkz0:True:=trivial;have kz:Qaa (fun g=>g=w.heap.size∨g=w.heap.size+1) w3 (((((w3.setCell ⟨w.heap.size,0,none⟩ (.string ⟨#[99,97,112,101]⟩)).setCell ⟨w.heap.size,1,none⟩ (.slice ea (esK 6).length ec)).setCell ⟨w.heap.size+1,0,none⟩ (.int .i64 0)).setCell ⟨w.heap.size+1,1,none⟩ (.int .i64 0)).setCell ⟨w.heap.size+1,2,none⟩ (.int .i64 0)):=by
   have k0:=Qaa.refl (S:=fun g=>g=w.heap.size∨g=w.heap.size+1) w3;exact((((k0.setCell (.inr (.inl rfl)) _).setCell (.inr (.inl rfl)) _).setCell (.inr (.inr rfl)) _).setCell (.inr (.inr rfl)) _).setCell (.inr (.inr rfl)) _
  have x0:=hz.cell 0;have x1:=hz.cell 1;have x2:=hy.cell 0;have x3:=hy.cell 1;have x4:=hy.cell 2;clear hz hy;generalize(((((w3.setCell ⟨w.heap.size,0,none⟩ (.string ⟨#[99,97,112,101]⟩)).setCell ⟨w.heap.size,1,none⟩ (.slice ea (esK 6).length ec)).setCell ⟨w.heap.size+1,0,none⟩ (.int .i64 0)).setCell ⟨w.heap.size+1,1,none⟩ (.int .i64 0)).setCell ⟨w.heap.size+1,2,none⟩ (.int .i64 0))=wz at x0 x1 x2 x3 x4 kz ⊢;refine bodyPost_ret (v:=.tuple #[.agg #[.string ⟨#[99,97,112,101]⟩,.slice ea (esK 6).length ec],.agg #[.int .i64 0,.int .i64 0,.int .i64 0],.int .i64 0]) ?_ rfl ⟨.slice ea (esK 6).length ec,rfl,Qca Ai kz (fun g hg e=>?_),?_⟩
  ·simp[results,Tryz.results40,go_sem,x0,x1,x2,x3,x4]
  ·have e1:=(dP.o.he.lt g hg).1;have e2:=wB.o.lt;rcases e with e|e <;> omega
  exact Gq.trans (kz.below jO (fun i hi e=>by rcases e with e|e <;> omega))
theorem Q4l(w:World)(lay:Qah w) :
 Calls prog 11 #[] w fun e w'=>e=.returned (.bool true)∧Below w.heap.size w w':=by
 have hr:=Qjo w lay;unfold Qdk at hr;have HR:=hid hr;clear lay hr;go_enter func11,ntmps11;go_wp2_with fail;refine Calls.mono (by exact HR.o) ?_;rintro e w1 ⟨ev,rfl,hE,hb⟩;replace hE:w1.ownsRow w.heap.size 39 4 ev 3 (Qha awE):=hE;obtain⟨g,c,rfl,_,hg⟩:=World.ownsRow.form hE (by decide);have d0:w1.cell? ⟨g,0,none⟩=some (.int .i64 1):=World.ownsRow.cellAt hE 0 (by decide);have d1:w1.cell? ⟨g,1,none⟩=some (.string ⟨#[47,97]⟩):=World.ownsRow.cellAt hE 1 (by decide);have d2:w1.cell? ⟨g,2,none⟩=some (.string ⟨#[]⟩):=World.ownsRow.cellAt hE 2 (by decide);have d3:w1.cell? ⟨g,3,none⟩=some (.string ⟨#[]⟩):=World.ownsRow.cellAt hE 3 (by decide);have d4:w1.cell? ⟨g,4,none⟩=some (.int .i64 2):=World.ownsRow.cellAt hE 4 (by decide);have d5:w1.cell? ⟨g,5,none⟩=some (.string ⟨#[47,97]⟩):=World.ownsRow.cellAt hE 5 (by decide);have d6:w1.cell? ⟨g,6,none⟩=some (.string ⟨#[112]⟩):=World.ownsRow.cellAt hE 6 (by decide);have d7:w1.cell? ⟨g,7,none⟩=some (.string ⟨#[0,0,0,1]⟩):=World.ownsRow.cellAt hE 7 (by decide);have d8:w1.cell? ⟨g,8,none⟩=some (.int .i64 3):=World.ownsRow.cellAt hE 8 (by decide);have d9:w1.cell? ⟨g,9,none⟩=some (.string ⟨#[47,97]⟩):=World.ownsRow.cellAt hE 9 (by decide);have d10:w1.cell? ⟨g,10,none⟩=some (.string ⟨#[113]⟩):=World.ownsRow.cellAt hE 10 (by decide);have d11:w1.cell? ⟨g,11,none⟩=some (.string ⟨#[]⟩):=World.ownsRow.cellAt hE 11 (by decide);have HB:=hid hb;clear hE hb HR;go_wp2_with fail;exact bodyPost_ret (v:=.bool true) (by simp[results,Tryz.results11,go_sem]) rfl ⟨rfl,(HB.o.alloc HB.o.size _).alloc (by have:=HB.o.size;simp;omega) _⟩
theorem QHq{R R':Nat→Prop}{v u:Value}{T:List Qba}{w:World}(h1:Qoa R w v T)(h2:Qoa R' w u T) :
 Calls prog 12 #[.agg #[v],.agg #[u]] w fun e w'=>e=.returned (.bool true)∧Below w.heap.size w w':=
 (QCq R R' v u T T w h1 h2).mono fun e w' ⟨b,he,hb,hw⟩=>⟨by rw[he,hb.2 rfl],hw⟩
end Go.Proofs.YtgaboghigefgbaaGreatDoor
