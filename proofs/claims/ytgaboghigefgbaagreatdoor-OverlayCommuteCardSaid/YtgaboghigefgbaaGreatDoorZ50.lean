/- The law OverlayCommute: region 3 (printed by govo.py). -/
import Derived.Test.YtgaboghigefgbaaGreatDoorZ43
import Derived.Test.YtgaboghigefgbaaGreatDoorZ2
set_option linter.all false
set_option maxHeartbeats 8000000
namespace Go.Proofs.YtgaboghigefgbaaGreatDoor
open Go.RowKit
theorem QAb.swap{ops:Array Oper}{A c:Act}{F F':Nat→Value→World→Prop}{S:World→Prop}{l:Array Bool}{w:World}(h:QAb ops A F S l c w)(hf:∀j u,l.getD j false=true→F j u w→F' j u w):QAb ops A F' S l c w:=
 ⟨⟨h.1.1,h.1.2.1,h.1.2.2.1,fun j hj hl=>hf j _ hl (h.1.2.2.2 j hj hl)⟩,h.2⟩
noncomputable def QDe:Array Oper:=(QXa (Tryz.f4.body.getD .skip) 3).getD #[]
theorem ozR:Qjc .any QDe=true:=by kernel_rfl
theorem Qgs:Qbc QDe=true:=by kernel_rfl
theorem QCu:QDe.size=10:=by kernel_rfl
def OzG(tb:Nat)(tv ev1 ev2:Value)(x y:Nat)(j:Nat):Value→Prop:=match j with
 | 0=>fun u=>u = .pointer (some ⟨tb,0,none⟩)
 | 1=>fun u=>u = .agg #[tv]
 | 2=>fun u=>u = .agg #[.string ⟨#[99,97,112,101]⟩,ev1]
 | 3=>fun u=>u = .pointer (some ⟨tb,0,none⟩)
 | 4=>fun u=>u = .agg #[tv]
 | 5=>fun u=>u = .agg #[.string ⟨#[104,97,116]⟩,ev2]
 | 6=>fun u=>u = .pointer (some ⟨x,0,none⟩)
 | 7=>fun u=>u = .pointer (some ⟨y,0,none⟩)
 | _=>fun _=>True
def OzF(tb:Nat)(tv ev1 ev2:Value)(x y:Nat)(j:Nat)(u:Value)(_:World):Prop:=OzG tb tv ev1 ev2 x y j u
theorem OzG.turn{tb x y x' y':Nat}{tv ev1 ev2 ev1' ev2' u:Value}{j:Nat}(h:OzG tb tv ev1 ev2 x y j u)(h2:j=2→ev1=ev1')(h5:j=5→ev2=ev2')(h6:j=6→x=x')(h7:j=7→y=y'):OzG tb tv ev1' ev2' x' y' j u:=by
 rcases j with _|_|_|_|_|_|_|_|j
 ·exact h
 ·exact h
 ·rw[←h2 rfl];exact h
 ·exact h
 ·exact h
 ·rw[←h5 rfl];exact h
 ·rw[←h6 rfl];exact h
 ·rw[←h7 rfl];exact h
 ·trivial
def QSf(tb:Nat)(ev:Value)(es:List Qja)(w:World):Prop:=w.ownsRow (tb+1) 39 4 ev es.length (Qqa es)∧QAe es∧es.length≤100
structure OzE(B tb:Nat)(W:World)(ev1 ev2:Value)(es1 es2:List Qja)(x y:Nat)(b2 b5 b6 b7 b8 b9:Bool)(wx:World):Prop where
 k:Qaa (· = tb) W wx
 tp:b8=false→Qtc B wx tb
 r1:b2=true→QSf tb ev1 es1 wx
 r2:b5=true→QSf tb ev2 es2 wx
 x1:b6=true→W.heap.size≤x∧Holds wx x (if b8 then #[.string ⟨#[99,97,112,101]⟩,ev1]else #[.string ⟨#[]⟩,.slice none 0 0]) 31
 y1:b7=true→W.heap.size≤y∧Holds wx y (if b9 then #[.string ⟨#[104,97,116]⟩,ev2]else #[.string ⟨#[]⟩,.slice none 0 0]) 31
 ne:b6=true→b7=true→x≠y
def OzI(A:Act)(B tb:Nat)(tv:Value)(W:World)(l:Array Bool)(c:Act)(wx:World):Prop:=
 ∃ev1 ev2 es1 es2 x y,QAb QDe A (OzF tb tv ev1 ev2 x y) (fun _=>True) l c wx∧OzE B tb W ev1 ev2 es1 es2 x y (l.getD 2 false) (l.getD 5 false) (l.getD 6 false) (l.getD 7 false) (l.getD 8 false) (l.getD 9 false) wx
theorem QSf.keeps{S:Nat→Prop}{tb:Nat}{ev:Value}{es:List Qja}{w w':World}(h:QSf tb ev es w)(k:Qaa S w w')(hs:∀g,tb<g→g<w.heap.size→(∃c f,w.heap[g]? = some (.cells c 39 f))→¬S g):QSf tb ev es w':=
 ⟨Qca h.1 k (fun g hg=>by
  obtain⟨l1,l2⟩:=h.1.lt g hg
  refine hs g (by omega) l2 ?_
  rcases h.1.2 with⟨rfl,_⟩|⟨g',cap,cur,rfl,_,hh,_⟩
  ·cases hg
  ·cases hg;exact⟨_,_,hh⟩),h.2⟩
theorem QSf.set{tb b j:Nat}{ev u:Value}{es:List Qja}{cs:Array Value}{w:World}(h:QSf tb ev es w)(hH:Holds w b cs 31):QSf tb ev es (w.setCell ⟨b,j,none⟩ u):=
 h.keeps ((Qaa.refl (· = b) w).setCell (.inr rfl) u) (fun g _ _ ⟨c,f,hh⟩ e=>by
  subst e
  have h2:=hH.out.symm.trans hh
  cases h2)
set_option maxRecDepth 100000 in
theorem Qao{Q:Exit→Act→World→Prop}(B tb zb base:Nat)(tv:Value)(T:List Qba)(W:World)(A:Act)(hsz:A.tmps.size=109)(hTp:Qtc B W tb)(MU:Qda W base tv T)(hc:Qfa T=0)(hl40:T.length≤40)(hZ:Holds W zb #[tv] 27)(Hm:zb≠tb)(htv:∃a n c,tv = .slice a n c)
 (a3:A.tmps.getD 3 undef = .pointer (some ⟨tb,0,none⟩)) (a4:A.tmps.getD 4 undef = .pointer (some ⟨zb,0,none⟩))
 (hQ:∀c w' ev1 ev2 es1 es2 x y,Qrb QDe A c→c.tmps.getD 5 undef = .pointer (some ⟨x,0,none⟩)→c.tmps.getD 6 undef = .pointer (some ⟨y,0,none⟩)→OzE B tb W ev1 ev2 es1 es2 x y true true true true true true w'→Q .normal c w') :
 wpAny Tryz.prog .any QDe Q QDe.size (Array.replicate QDe.size false) A W:=by
 refine QVa (OzI A B tb tv W) ozR ?hend ?Hk _ _ _ _ (by simp) (by simp) ⟨undef,undef,[],[],0,0,QAb.start trivial,?hini⟩
 case hini=>
  simp only[QXk]
  exact⟨Qaa.refl _ _,fun _=>hTp,fun h=>(by cases h),fun h=>(by cases h),fun h=>(by cases h),fun h=>(by cases h),fun h=>(by cases h)⟩
 case hend=>
  rintro l c wx ⟨ev1,ev2,es1,es2,x,y,hI,hE⟩ hl
  have hh:∀k,k<10→l.getD k false=true:=fun k hk=>hl k (by rw[QCu];exact hk)
  rw[hh 2 (by decide),hh 5 (by decide),hh 6 (by decide),hh 7 (by decide),hh 8 (by decide),hh 9 (by decide)]at hE
  exact hQ c wx ev1 ev2 es1 es2 x y hI.1.1 (hI.fact 6 5 rfl (hh 6 (by decide))) (hI.fact 7 6 rfl (hh 7 (by decide))) hE
 intro l c wx mw i' op ho hl Ha K' hK'
 obtain⟨ev1,ev2,es1,es2,x,y,hI,hE⟩:=mw
 have mg:l.size=10:=by rw[hI.1.2.2.1.1,QCu]
 have hi':i'<10:=by rw[←QCu];exact(Array.getElem?_eq_some_iff.1 ho).1
 have Hf:=ho
 simp only[QDe,QXa,Tryz.f4,Option.getD_some,reduceIte,Nat.reduceEqDiff]at ho
 have s3:=(hI.slot 3 (by kernel_rfl)).trans a3
 have s4:=(hI.slot 4 (by kernel_rfl)).trans a4
 have fs:=And.intro True.intro True.intro
 simp only[Array.getD_eq_getD_getElem?]at s3 s4
 have GV:i'=0∨i'=1∨i'=2∨i'=3∨i'=4∨i'=5∨i'=6∨i'=7∨i'=8∨i'=9:=by omega
 clear hi'
 obtain⟨ta,tn,tcp,rfl⟩:=htv
 have st (i:Nat) (hi:i<10) (j:Nat) (hj:i≠j):(l.setIfInBounds i true).getD j false=l.getD j false:=Qdb hj
 have sh (i:Nat) (hi:i<10):(l.setIfInBounds i true).getD i false=true:=Q9b (by rw[mg];exact hi)
 rcases GV with rfl|rfl|rfl|rfl|rfl|rfl|rfl|rfl|rfl|rfl
 all_goals cases ho
 ·go_simp
  refine hK' _ _ ⟨ev1,ev2,es1,es2,x,y,hI.step Qgs 0 27 rfl (by rw[hsz];decide) _ _ Hf Ha trivial (fun _ _ h=>h) rfl,?_⟩
  rw[st 0 (by decide) 2 (by decide),st 0 (by decide) 5 (by decide),st 0 (by decide) 6 (by decide),st 0 (by decide) 7 (by decide),st 0 (by decide) 8 (by decide),st 0 (by decide) 9 (by decide)]
  exact hE
 ·have hz:=hZ.keeps hE.k Hm
  have z0:=hz.cell 0
  have zl:=hz.lt
  go_simp
  refine hK' _ _ ⟨ev1,ev2,es1,es2,x,y,hI.step Qgs 1 28 rfl (by rw[hsz];decide) _ _ Hf Ha trivial (fun _ _ h=>h) rfl,?_⟩
  rw[st 1 (by decide) 2 (by decide),st 1 (by decide) 5 (by decide),st 1 (by decide) 6 (by decide),st 1 (by decide) 7 (by decide),st 1 (by decide) 8 (by decide),st 1 (by decide) 9 (by decide)]
  exact hE
 ·have e0:c.tmps.getD 27 undef = .pointer (some ⟨tb,0,none⟩):=hI.fact 0 27 rfl (hI.1.2.2.1.2.yes_far 10 Hf Ha (by decide) (by kernel_rfl))
  simp only[Array.getD_eq_getD_getElem?]at e0
  have e1:c.tmps.getD 28 undef = .agg #[.slice ta tn tcp]:=hI.fact 1 28 rfl (hI.1.2.2.1.2.yes_far 10 Hf Ha (by decide) (by kernel_rfl))
  simp only[Array.getD_eq_getD_getElem?]at e1
  have n8:l.getD 8 false=false:=hI.1.2.2.1.2.no_far 10 hl (by kernel_rfl:QZd QDe 10 8 2=true)
  have n5:l.getD 5 false=false:=hI.1.2.2.1.2.no_far 10 hl (by kernel_rfl:QZd QDe 10 5 2=true)
  have n9:l.getD 9 false=false:=hI.1.2.2.1.2.no_far 10 hl (by kernel_rfl:QZd QDe 10 9 2=true)
  have aq:=hE.tp n8
  have eO:=QDd B tb base (.slice ta tn tcp) T ⟨#[99,97,112,101]⟩ wx aq (MU.tape hTp hE.k) hc hl40
  go_simp
  refine(by exact eO:Calls _ _ _ _ _).mono ?_
  rintro e w2 ⟨ev,es,rfl,Ho,nW,Jw,nZ,gJ⟩
  have fg:=aq.lt
  have Hy:=hE.k.trans gJ (fun i _ h=>h)
  have mv (v:Value) (es0:List Qja) (h:QSf tb v es0 wx):QSf tb v es0 w2:=h.keeps gJ (fun g hg _ _ e=>by omega)
  have mh (b:Nat) (cs:Array Value) (t:TypeId) (hb:W.heap.size≤b) (h:Holds wx b cs t):Holds w2 b cs t:=h.keeps gJ (fun e=>by have:=hTp.lt;omega)
  have jK:QSf tb ev es w2:=⟨QGd Ho (by omega),nW,Jw⟩
  refine hK' _ _ ⟨ev,ev2,es,es2,x,y,(hI.swap (F':=OzF tb (.slice ta tn tcp) ev ev2 x y) (fun j u hj h=>OzG.turn h (fun e=>absurd (e ▸ hj) (by rw[hl];decide)) (fun e=>rfl) (fun _=>rfl) (fun _=>rfl))).step Qgs 2 29 rfl (by rw[hsz];decide) _ _ Hf Ha trivial (fun _ _ h=>h) rfl,?_⟩
  rw[sh 2 (by decide),st 2 (by decide) 5 (by decide),st 2 (by decide) 6 (by decide),st 2 (by decide) 7 (by decide),st 2 (by decide) 8 (by decide),st 2 (by decide) 9 (by decide)]
  rw[n8,n5,n9]
  rw[n8,n5,n9]at hE
  exact⟨Hy,fun _=>nZ,fun _=>jK,fun h=>(by cases h),fun h=>⟨(hE.x1 h).1,mh _ _ _ (hE.x1 h).1 (hE.x1 h).2⟩,fun h=>⟨(hE.y1 h).1,mh _ _ _ (hE.y1 h).1 (hE.y1 h).2⟩,hE.ne⟩
 ·go_simp
  refine hK' _ _ ⟨ev1,ev2,es1,es2,x,y,hI.step Qgs 3 30 rfl (by rw[hsz];decide) _ _ Hf Ha trivial (fun _ _ h=>h) rfl,?_⟩
  rw[st 3 (by decide) 2 (by decide),st 3 (by decide) 5 (by decide),st 3 (by decide) 6 (by decide),st 3 (by decide) 7 (by decide),st 3 (by decide) 8 (by decide),st 3 (by decide) 9 (by decide)]
  exact hE
 ·have hz:=hZ.keeps hE.k Hm
  have z0:=hz.cell 0
  have zl:=hz.lt
  go_simp
  refine hK' _ _ ⟨ev1,ev2,es1,es2,x,y,hI.step Qgs 4 31 rfl (by rw[hsz];decide) _ _ Hf Ha trivial (fun _ _ h=>h) rfl,?_⟩
  rw[st 4 (by decide) 2 (by decide),st 4 (by decide) 5 (by decide),st 4 (by decide) 6 (by decide),st 4 (by decide) 7 (by decide),st 4 (by decide) 8 (by decide),st 4 (by decide) 9 (by decide)]
  exact hE
 ·have e3:c.tmps.getD 30 undef = .pointer (some ⟨tb,0,none⟩):=hI.fact 3 30 rfl (hI.1.2.2.1.2.yes_far 10 Hf Ha (by decide) (by kernel_rfl))
  simp only[Array.getD_eq_getD_getElem?]at e3
  have e4:c.tmps.getD 31 undef = .agg #[.slice ta tn tcp]:=hI.fact 4 31 rfl (hI.1.2.2.1.2.yes_far 10 Hf Ha (by decide) (by kernel_rfl))
  simp only[Array.getD_eq_getD_getElem?]at e4
  have n8:l.getD 8 false=false:=hI.1.2.2.1.2.no_far 10 hl (by kernel_rfl:QZd QDe 10 8 5=true)
  have n9:l.getD 9 false=false:=hI.1.2.2.1.2.no_far 10 hl (by kernel_rfl:QZd QDe 10 9 5=true)
  have aq:=hE.tp n8
  have eO:=QDd B tb base (.slice ta tn tcp) T ⟨#[104,97,116]⟩ wx aq (MU.tape hTp hE.k) hc hl40
  go_simp
  refine(by exact eO:Calls _ _ _ _ _).mono ?_
  rintro e w2 ⟨ev,es,rfl,Ho,nW,Jw,nZ,gJ⟩
  have fg:=aq.lt
  have Hy:=hE.k.trans gJ (fun i _ h=>h)
  have mv (v:Value) (es0:List Qja) (h:QSf tb v es0 wx):QSf tb v es0 w2:=h.keeps gJ (fun g hg _ _ e=>by omega)
  have mh (b:Nat) (cs:Array Value) (t:TypeId) (hb:W.heap.size≤b) (h:Holds wx b cs t):Holds w2 b cs t:=h.keeps gJ (fun e=>by have:=hTp.lt;omega)
  have jK:QSf tb ev es w2:=⟨QGd Ho (by omega),nW,Jw⟩
  refine hK' _ _ ⟨ev1,ev,es1,es,x,y,(hI.swap (F':=OzF tb (.slice ta tn tcp) ev1 ev x y) (fun j u hj h=>OzG.turn h (fun e=>rfl) (fun e=>absurd (e ▸ hj) (by rw[hl];decide)) (fun _=>rfl) (fun _=>rfl))).step Qgs 5 32 rfl (by rw[hsz];decide) _ _ Hf Ha trivial (fun _ _ h=>h) rfl,?_⟩
  rw[st 5 (by decide) 2 (by decide),sh 5 (by decide),st 5 (by decide) 6 (by decide),st 5 (by decide) 7 (by decide),st 5 (by decide) 8 (by decide),st 5 (by decide) 9 (by decide)]
  rw[n8,n9]
  rw[n8,n9]at hE
  exact⟨Hy,fun _=>nZ,fun h=>mv _ _ (hE.r1 h),fun _=>jK,fun h=>⟨(hE.x1 h).1,mh _ _ _ (hE.x1 h).1 (hE.x1 h).2⟩,fun h=>⟨(hE.y1 h).1,mh _ _ _ (hE.y1 h).1 (hE.y1 h).2⟩,hE.ne⟩
 ·have n8:l.getD 8 false=false:=hI.1.2.2.1.2.no_far 10 hl (by kernel_rfl:QZd QDe 10 8 6=true)
  go_simp
  refine hK' _ _ ⟨ev1,ev2,es1,es2,wx.heap.size,y,(hI.swap (F':=OzF tb (.slice ta tn tcp) ev1 ev2 wx.heap.size y) (fun j u hj h=>OzG.turn h (fun _=>rfl) (fun _=>rfl) (fun e=>absurd (e ▸ hj) (by rw[hl];decide)) (fun e=>rfl))).step Qgs 6 5 rfl (by rw[hsz];decide) _ _ Hf Ha trivial (fun _ _ h=>h) rfl,?_⟩
  rw[st 6 (by decide) 2 (by decide),st 6 (by decide) 5 (by decide),sh 6 (by decide),st 6 (by decide) 7 (by decide),st 6 (by decide) 8 (by decide),st 6 (by decide) 9 (by decide)]
  rw[n8]
  rw[n8]at hE
  exact⟨hE.k.alloc _,fun h=>(hE.tp h).new ((Below.refl _ _).alloc (Nat.le_refl _) _),fun h=>⟨World.ownsRow.alloc (hE.r1 h).1 _,(hE.r1 h).2⟩,fun h=>⟨World.ownsRow.alloc (hE.r2 h).1 _,(hE.r2 h).2⟩,fun _=>⟨hE.k.size,Holds.new wx _ _⟩,fun h=>⟨(hE.y1 h).1,(hE.y1 h).2.alloc _⟩,fun _ h=>Nat.ne_of_gt (hE.y1 h).2.lt⟩
 ·have n8:l.getD 9 false=false:=hI.1.2.2.1.2.no_far 10 hl (by kernel_rfl:QZd QDe 10 9 7=true)
  go_simp
  refine hK' _ _ ⟨ev1,ev2,es1,es2,x,wx.heap.size,(hI.swap (F':=OzF tb (.slice ta tn tcp) ev1 ev2 x wx.heap.size) (fun j u hj h=>OzG.turn h (fun _=>rfl) (fun _=>rfl) (fun e=>rfl) (fun e=>absurd (e ▸ hj) (by rw[hl];decide)))).step Qgs 7 6 rfl (by rw[hsz];decide) _ _ Hf Ha trivial (fun _ _ h=>h) rfl,?_⟩
  rw[st 7 (by decide) 2 (by decide),st 7 (by decide) 5 (by decide),st 7 (by decide) 6 (by decide),sh 7 (by decide),st 7 (by decide) 8 (by decide),st 7 (by decide) 9 (by decide)]
  rw[n8]
  rw[n8]at hE
  exact⟨hE.k.alloc _,fun h=>(hE.tp h).new ((Below.refl _ _).alloc (Nat.le_refl _) _),fun h=>⟨World.ownsRow.alloc (hE.r1 h).1 _,(hE.r1 h).2⟩,fun h=>⟨World.ownsRow.alloc (hE.r2 h).1 _,(hE.r2 h).2⟩,fun h=>⟨(hE.x1 h).1,(hE.x1 h).2.alloc _⟩,fun _=>⟨hE.k.size,Holds.new wx _ _⟩,fun h _=>Nat.ne_of_lt (hE.x1 h).2.lt⟩
 ·have e2:c.tmps.getD 29 undef = .agg #[.string ⟨#[99,97,112,101]⟩,ev1]:=hI.fact 2 29 rfl (hI.1.2.2.1.2.yes_far 10 Hf Ha (by decide) (by kernel_rfl))
  simp only[Array.getD_eq_getD_getElem?]at e2
  have e6:c.tmps.getD 5 undef = .pointer (some ⟨x,0,none⟩):=hI.fact 6 5 rfl (hI.1.2.2.1.2.yes_far 10 Hf Ha (by decide) (by kernel_rfl))
  simp only[Array.getD_eq_getD_getElem?]at e6
  have t2:l.getD 2 false=true:=(hI.1.2.2.1.2.yes_far 10 Hf Ha (by decide) (by kernel_rfl))
  have t5:l.getD 5 false=true:=(hI.1.2.2.1.2.yes_far 10 Hf Ha (by decide) (by kernel_rfl))
  have t6:l.getD 6 false=true:=(hI.1.2.2.1.2.yes_far 10 Hf Ha (by decide) (by kernel_rfl))
  have t7:l.getD 7 false=true:=(hI.1.2.2.1.2.yes_far 10 Hf Ha (by decide) (by kernel_rfl))
  have n9:l.getD 9 false=false:=hI.1.2.2.1.2.no_far 10 hl (by kernel_rfl:QZd QDe 10 9 8=true)
  rw[t2,t5,t6,t7,hl,n9]at hE
  obtain⟨va,vc,cI⟩:=Qea (hE.r1 rfl).1
  subst cI
  obtain⟨cJ,hx⟩:=hE.x1 rfl
  replace hx:Holds wx x #[.string ⟨#[]⟩,.slice none 0 0] 31:=hx
  have x0:=hx.cell 0
  have x1:=hx.cell 1
  have xf0:=hx.free 0
  have xf1:=hx.free 1
  have xl:=hx.lt
  have r1:=hE.r1 rfl
  have r2:=hE.r2 rfl
  have hx2:=(hx.set 0 (.string ⟨#[99,97,112,101]⟩)).set 1 (.slice va es1.length vc)
  obtain⟨zF,hy⟩:=hE.y1 rfl
  have Gi:=hE.ne rfl rfl
  have cK:=(hy.other ⟨x,0,none⟩ (.string ⟨#[99,97,112,101]⟩) (Ne.symm Gi)).other ⟨x,1,none⟩ (.slice va es1.length vc) (Ne.symm Gi)
  have r1':=(r1.set (j:=0) (u:=.string ⟨#[99,97,112,101]⟩) hx).set (j:=1) (u:=.slice va es1.length vc) (hx.set 0 (.string ⟨#[99,97,112,101]⟩))
  have r2':=(r2.set (j:=0) (u:=.string ⟨#[99,97,112,101]⟩) hx).set (j:=1) (u:=.slice va es1.length vc) (hx.set 0 (.string ⟨#[99,97,112,101]⟩))
  go_simp
  refine hK' _ _ ⟨_,_,es1,es2,x,y,hI.stepN 8 rfl _ Hf Ha trivial (fun _ _ h=>h) trivial,?_⟩
  rw[st 8 (by decide) 2 (by decide),st 8 (by decide) 5 (by decide),st 8 (by decide) 6 (by decide),st 8 (by decide) 7 (by decide),sh 8 (by decide),st 8 (by decide) 9 (by decide)]
  rw[t2,t5,t6,t7,n9]
  exact⟨(hE.k.setCell (.inl cJ) _).setCell (.inl cJ) _,fun h=>(by cases h),fun _=>r1',fun _=>r2',fun _=>⟨cJ,hx2⟩,fun _=>⟨zF,cK⟩,fun _ _=>Gi⟩
 ·have e5:c.tmps.getD 32 undef = .agg #[.string ⟨#[104,97,116]⟩,ev2]:=hI.fact 5 32 rfl (hI.1.2.2.1.2.yes_far 10 Hf Ha (by decide) (by kernel_rfl))
  simp only[Array.getD_eq_getD_getElem?]at e5
  have e7:c.tmps.getD 6 undef = .pointer (some ⟨y,0,none⟩):=hI.fact 7 6 rfl (hI.1.2.2.1.2.yes_far 10 Hf Ha (by decide) (by kernel_rfl))
  simp only[Array.getD_eq_getD_getElem?]at e7
  have t2:l.getD 2 false=true:=(hI.1.2.2.1.2.yes_far 10 Hf Ha (by decide) (by kernel_rfl))
  have t5:l.getD 5 false=true:=(hI.1.2.2.1.2.yes_far 10 Hf Ha (by decide) (by kernel_rfl))
  have t6:l.getD 6 false=true:=(hI.1.2.2.1.2.yes_far 10 Hf Ha (by decide) (by kernel_rfl))
  have t7:l.getD 7 false=true:=(hI.1.2.2.1.2.yes_far 10 Hf Ha (by decide) (by kernel_rfl))
  have t8:l.getD 8 false=true:=(hI.1.2.2.1.2.yes_far 10 Hf Ha (by decide) (by kernel_rfl))
  rw[t2,t5,t6,t7,t8,hl]at hE
  obtain⟨va,vc,cI⟩:=Qea (hE.r2 rfl).1
  subst cI
  obtain⟨cJ,hx⟩:=hE.y1 rfl
  replace hx:Holds wx y #[.string ⟨#[]⟩,.slice none 0 0] 31:=hx
  have x0:=hx.cell 0
  have x1:=hx.cell 1
  have xf0:=hx.free 0
  have xf1:=hx.free 1
  have xl:=hx.lt
  have r1:=hE.r1 rfl
  have r2:=hE.r2 rfl
  have hx2:=(hx.set 0 (.string ⟨#[104,97,116]⟩)).set 1 (.slice va es2.length vc)
  obtain⟨zF,hy⟩:=hE.x1 rfl
  have Gi:=hE.ne rfl rfl
  have cK:=(hy.other ⟨y,0,none⟩ (.string ⟨#[104,97,116]⟩) Gi).other ⟨y,1,none⟩ (.slice va es2.length vc) Gi
  have r1':=(r1.set (j:=0) (u:=.string ⟨#[104,97,116]⟩) hx).set (j:=1) (u:=.slice va es2.length vc) (hx.set 0 (.string ⟨#[104,97,116]⟩))
  have r2':=(r2.set (j:=0) (u:=.string ⟨#[104,97,116]⟩) hx).set (j:=1) (u:=.slice va es2.length vc) (hx.set 0 (.string ⟨#[104,97,116]⟩))
  go_simp
  refine hK' _ _ ⟨_,_,es1,es2,x,y,hI.stepN 9 rfl _ Hf Ha trivial (fun _ _ h=>h) trivial,?_⟩
  rw[st 9 (by decide) 2 (by decide),st 9 (by decide) 5 (by decide),st 9 (by decide) 6 (by decide),st 9 (by decide) 7 (by decide),st 9 (by decide) 8 (by decide),sh 9 (by decide)]
  rw[t2,t5,t6,t7,t8]
  exact⟨(hE.k.setCell (.inl cJ) _).setCell (.inl cJ) _,fun h=>(by cases h),fun _=>r1',fun _=>r2',fun _=>⟨zF,cK⟩,fun _=>⟨cJ,hx2⟩,fun _ _=>Gi⟩
end Go.Proofs.YtgaboghigefgbaaGreatDoor
