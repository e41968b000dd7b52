/- Lemmas on the way to the law; no conditions. -/
import Derived.Test.YtgaboghigefgbaaGreatDoorRows
import Derived.WalkKit
import Derived.WalkSpells
import Derived.Lib.Hide
import Derived.OneCell
import Derived.Deep.Draws
import Derived.RegionTactic
import Derived.StringKeys
import Derived.Carry
import Derived.MapKept
import Derived.KernelRfl
set_option linter.all false
set_option maxRecDepth 100000
set_option maxHeartbeats 8000000
namespace Go.Proofs.YtgaboghigefgbaaGreatDoor
open Go.Proofs.Tryz
section
open Go.RowKit
def Holds(w:World)(b:Nat)(cs:Array Value)(t:TypeId):Prop:=w.heap[b]? = some (.cells cs t (0,0))
section
variable{w w':World}{b:Nat}{cs:Array Value}{t:TypeId}
theorem Holds.out(h:Holds w b cs t):w.heap[b]? = some (.cells cs t (0,0)):=h
theorem Holds.lt(h:Holds w b cs t):b<w.heap.size:=lt_of_block h
theorem Holds.cell(h:Holds w b cs t)(j:Nat):w.cell? ⟨b,j,none⟩=cs[j]?:=cell_of_row w b j cs t (0,0) h
theorem Holds.free(h:Holds w b cs t)(j:Nat):w.frozen? ⟨b,j,none⟩=false:=by
 have h':w.heap[b]? = some (.cells cs t (0,0)):=h;simp[World.frozen?,h']
theorem Holds.set(h:Holds w b cs t)(j:Nat)(v:Value):Holds (w.setCell ⟨b,j,none⟩ v) b (cs.setIfInBounds j v) t:=
 heap_setCell_same w b j cs t v h
theorem Holds.other(h:Holds w b cs t)(a:Addr)(v:Value)(Hl:b≠a.block):Holds (w.setCell a v) b cs t:=
 (heap_setCell_other w a b v Hl).trans h
theorem Holds.drewN(h:Holds w b cs t)(n:Nat):Holds (w.drewN n) b cs t:=h
theorem Holds.drew(h:Holds w b cs t):Holds w.drew b cs t:=h
theorem Holds.alloc(h:Holds w b cs t)(o:Obj):Holds (w.alloc o) b cs t:=(heap_alloc_old w o (lt_of_block h)).trans h
theorem Holds.new(w:World)(cs:Array Value)(t:TypeId):Holds (w.alloc (.cells cs t)) w.heap.size cs t:=heap_alloc_new w _
end
structure Qaa(S:Nat→Prop)(w w':World):Prop where
 os:w'.os=w.os
 tape:w'.tape=w.tape
 output:w'.output=w.output
 size:w.heap.size≤w'.heap.size
 block:∀k,k<w.heap.size→¬S k→w'.heap[k]? = w.heap[k]?
section
variable{S S':Nat→Prop}{a w w' w'':World}
theorem Qaa.refl(S:Nat→Prop)(w:World):Qaa S w w:=⟨rfl,rfl,rfl,Nat.le_refl _,fun _ _ _=>rfl⟩
theorem Qaa.trans(h:Qaa S w w')(k:Qaa S' w' w'')(hs:∀i,i<w.heap.size→S' i→S i):Qaa S w w'':=
 ⟨k.os.trans h.os,k.tape.trans h.tape,k.output.trans h.output,Nat.le_trans h.size k.size,
  fun i hi hn=>(k.block i (Nat.lt_of_lt_of_le hi h.size) (fun x=>hn (hs i hi x))).trans (h.block i hi hn)⟩
theorem Qaa.mono(h:Qaa S' w w')(hs:∀i,i<w.heap.size→S' i→S i):Qaa S w w':=
 ⟨h.os,h.tape,h.output,h.size,fun i hi hn=>h.block i hi (fun x=>hn (hs i hi x))⟩
theorem Qaa.setCell(h:Qaa S a w){p:Addr}(hp:a.heap.size≤p.block∨S p.block)(u:Value):Qaa S a (w.setCell p u):=
 ⟨h.os,h.tape,h.output,by simpa using h.size,fun i hi hn=>(heap_setCell_other w p i u (by rintro rfl;rcases hp with hp|hp;exact absurd hi (by omega);exact hn hp)).trans (h.block i hi hn)⟩
theorem Qaa.alloc(h:Qaa S a w)(o:Obj):Qaa S a (w.alloc o):=
 ⟨h.os,h.tape,h.output,Nat.le_trans h.size (by simp),fun i hi hn=>(heap_alloc_old w o (Nat.lt_of_lt_of_le hi h.size)).trans (h.block i hi hn)⟩
theorem Qaa.drewN(h:Qaa S a w)(n:Nat):Qaa S a (w.drewN n):=⟨h.os,h.tape,h.output,h.size,h.block⟩
theorem Qaa.drew(h:Qaa S a w):Qaa S a w.drew:=⟨h.os,h.tape,h.output,h.size,h.block⟩
theorem Qaa.below{B:Nat}(h:Qaa S w w')(hB:B≤w.heap.size)(hs:∀i,i<B→¬S i):Below B w w':=
 ⟨h.os,h.tape,h.output,h.size,fun i hi=>h.block i (by omega) (hs i hi)⟩
theorem Qaa.of_below{B:Nat}(h:Below B w w'):Qaa (fun i=>B≤i) w w':=⟨h.os,h.tape,h.output,h.size,fun i _ hn=>h.block i (by omega)⟩
theorem Qaa.of_fresh(h:Below w.heap.size w w')(S:Nat→Prop):Qaa S w w':=⟨h.os,h.tape,h.output,h.size,fun i hi _=>h.block i hi⟩
theorem Qaa.of_grown{row:Option Nat}(h:w.grownBy w' row)(hs:∀i,row=some i→S i):Qaa S w w':=
 ⟨h.os,h.tape,h.output,h.size,fun i hi hn=>h.block i hi (fun e=>hn (hs i e.symm))⟩
theorem Qaa.grown{row:Option Nat}(k:Qaa S a w)(h:w.grownBy w' row)(hs:∀i,row=some i→a.heap.size≤i∨S i):Qaa S a w':=
 k.trans (S':=fun i=>row=some i) ⟨h.os,h.tape,h.output,h.size,fun i hi hn=>h.block i hi (fun e=>hn e.symm)⟩ (fun i hi e=>(hs i e).resolve_left (by omega))
theorem Qaa.cell(h:Qaa S w w'){p:Addr}(hp:p.block<w.heap.size)(hn:¬S p.block):w'.cell? p=w.cell? p:=World.cell?_of_block (w:=w) (h.block p.block hp hn)
theorem Qaa.frozen(h:Qaa S w w'){p:Addr}(hp:p.block<w.heap.size)(hn:¬S p.block):w'.frozen? p=w.frozen? p:=World.frozen?_of_block (w:=w) (h.block p.block hp hn)
theorem Holds.keeps{b:Nat}{cs:Array Value}{t:TypeId}(h:Holds w b cs t)(k:Qaa S w w')(hn:¬S b):Holds w' b cs t:=(k.block b (lt_of_block h) hn).trans h
theorem Holds.fr{w w':World}{b:Nat}{cs:Array Value}{t:TypeId}(h:Holds w b cs t)(k:Below w.heap.size w w'):Holds w' b cs t:=h.keeps (Qaa.of_fresh k (fun _=>False)) (fun e=>e)
theorem Bq{w:World}{o:Obj}:Below w.heap.size w (w.alloc o):=(Below.refl _ _).alloc (Nat.le_refl _) _
theorem gE{xs:Array Value}{i:Nat}{v:Value}(h:xs.getD i undef=v):xs[i]?.getD undef=v:=by
 rw[←Array.getD_eq_getD_getElem?];exact h
theorem Holds.o{w:World}{b:Nat}{cs:Array Value}{t:TypeId}(h:Holds w b cs t):w.heap[b]? = some (.cells cs t (0,0)):=h
theorem _root_.Go.RowKit.Hid.o{p:Prop}(h:Go.RowKit.Hid p):p:=h.out
theorem Qca{base:Nat}{e:TypeId}{size:Nat}{v:Value}{n:Nat}{xs:List Value}(h:w.ownsRow base e size v n xs)(k:Qaa S w w')(hs:∀g,v.ownBlock=some g→¬S g):w'.ownsRow base e size v n xs:=by
 refine⟨h.1,?_⟩;rcases h.2 with hn|⟨g,cap,cur,rfl,hb,hgg,rest⟩
 ·exact .inl hn
 refine .inr ⟨g,cap,cur,rfl,hb,?_,rest⟩;rw[k.block g (Array.getElem?_eq_some_iff.1 hgg).1 (hs g rfl)];exact hgg
end
theorem Q8a(w:World)(cs:Array Value)(t:TypeId)(n:Nat)(hn:n=w.heap.size)(xs:List Value)(hx:xs=cs.toList) :
 ∀(j:Nat) (u:Value),xs[j]? = some u→(w.alloc (.cells cs t)).cell? ((⟨n,0,none⟩:Addr).add j)=some u:=by
 subst hn hx;intro j u hj;have Gk:(⟨w.heap.size,0,none⟩:Addr).add j=⟨w.heap.size,j,none⟩:=by unfold Addr.add;split <;> simp_all
 rw[Gk,(Holds.new w cs t).cell j];simpa using hj
theorem Holds.grown{w w':World}{b:Nat}{cs:Array Value}{t:TypeId}{row:Option Nat}(h:Holds w b cs t)(g:w.grownBy w' row)(hn:row≠some b):Holds w' b cs t:=
 (g.block b (lt_of_block h) (fun e=>hn e.symm)).trans h
theorem Qka{a b:Bool}(h:a=b):Ending.returned (.bool a)=.returned (.bool b):=by rw[h]
theorem QXa{k:IntKind}{a b:Int}(h:a=b):Ending.returned (.int k a)=.returned (.int k b):=by rw[h]
def Qah(w:World):Prop:=∃m,w.cell? ⟨0,0,none⟩=some (.int .i64 m)
theorem Qah.keeps{S:Nat→Prop}{w w':World}(h:Qah w)(k:Qaa S w w')(hn:¬S 0):Qah w':=by
 obtain⟨m,h⟩:=h;exact⟨m,(k.cell (p:=⟨0,0,none⟩) (World.block_lt_of_cell? w _ h) hn).trans h⟩
theorem Qah.fr{w w':World}(h:Qah w)(k:Below w.heap.size w w'):Qah w':=h.keeps (Qaa.of_fresh k (fun _=>False)) (fun e=>e)
end
section
section
variable{P:Program}{ops:Array Oper}{Q:Exit→Act→World→Prop}{md:Region.Mode}
end
end
section
section
variable{P:Program}{ops:Array Oper}{Q:Exit→Act→World→Prop}{md:Region.Mode}
def Q0b(md:Region.Mode)(ops:Array Oper):Bool:=(List.range ops.size).all fun j=>match ops[j]? with
 | some o=>o.after.all fun e=>!Region.binds md e||decide (e.on<j)
 | none=>true
theorem QGp(h:Q0b md ops=true){j:Nat}{o:Oper}(ho:ops[j]? = some o):∀e∈o.after,Region.binds md e=true→e.on<j:=by
 have hj:j<ops.size:=(Array.getElem?_eq_some_iff.1 ho).1;have:=List.all_eq_true.1 h j (List.mem_range.2 hj);simp only[ho]at this;intro e he hb;have h2:=Array.all_eq_true_iff_forall_mem.1 this e he;rw[hb]at h2;simpa using h2
theorem Q6h(h:Q0b md ops=true){l:Array Bool}(hs:l.size=ops.size)(hr:Region.ready md ops l=[]):∀j,j<ops.size→l.getD j false=true:=by
 intro j
 induction j using Nat.strongRecOn with
 | ind j ih=>
  intro hj;cases hl:l.getD j false with
  | true=>rfl
  | false=>
   have Ge:j<l.size:=by omega
   have hm:j∈Region.ready md ops l:=by
    rw[mem_ready];refine⟨by simp[Ge]at hl ⊢;exact hl,ops[j],by simp[hj],fun e he hb=>?_⟩;have:=QGp h (j:=j) (o:=ops[j]) (by simp[hj]) e he hb;exact ih e.on this (by omega)
   rw[hr]at hm;cases hm
theorem QNa(Inv:Array Bool→Act→World→Prop)(Hn:Q0b md ops=true)
 (hend:∀l a w,Inv l a w→(∀j,j<ops.size→l.getD j false=true)→Q .normal a w)
 (Hk:∀l a w,Inv l a w→∀i o,ops[i]? = some o→l.getD i false=false→(∀e∈o.after,Region.binds md e=true→l.getD e.on false=true)→
  ∀K':Act→World→Prop,(∀a w,Inv (l.setIfInBounds i true) a w→K' a w)→if Region.wanted o (yielded ops a.tmps)=true then Oper.wp P o a w K' Q else K' (a.put o.dst undef) w) :
 ∀(fuel:Nat) (l:Array Bool) (a:Act) (w:World),l.size=ops.size→l.toList.count false≤fuel→Inv l a w→wpAny P md ops Q fuel l a w:=by
 intro fuel
 induction fuel with
 | zero=>
  intro l a w hs hc hI;have hr:Region.ready md ops l=[]:=by
   rw[List.eq_nil_iff_forall_not_mem];intro j hj;rw[mem_ready]at hj;obtain⟨h0,o,ho,_⟩:=hj;have g9:j<l.size:=by rw[hs];exact(Array.getElem?_eq_some_iff.1 ho).1
   have:false∈l.toList:=by
    simp[g9]at h0;rw[←h0];exact Array.mem_toList_iff.2 (Array.getElem_mem g9)
   have:=List.count_pos_iff.2 this;omega
  exact⟨hr,hend l a w hI (Q6h Hn hs hr)⟩
 | succ fuel ih=>
  intro l a w hs hc hI;refine⟨fun hr=>hend l a w hI (Q6h Hn hs hr),fun i hi=>?_⟩;have hi':=hi;rw[mem_ready]at hi;obtain⟨h0,o,ho,Ha⟩:=hi;have G6:i<l.size:=by rw[hs];exact(Array.getElem?_eq_some_iff.1 ho).1
  refine wpOp_step ho fun K' hK'=>?_;refine Hk l a w hI i o ho (by simp[G6]at h0 ⊢;exact h0) Ha K' fun a' w' hI'=>hK' a' w' ?_;refine ih _ a' w' (by simpa using hs) ?_ hI';have h1:l.toList[i]'(by simpa using G6)=false:=by simp[G6]at h0;simpa using h0
  have h2:=List.count_set (a:=true) (b:=false) (l:=l.toList) (i:=i) (by simpa using G6);rw[h1]at h2;have hpos:0<l.toList.count false:=List.count_pos_iff.2 (by rw[←h1];exact List.getElem_mem _);rw[Array.toList_setIfInBounds,h2,if_pos (by rfl),if_neg (by decide)];omega
end
def QFd(ops:Array Oper)(j:Nat):Option Nat:=match ops[j]? with
 | some o=>o.dst
 | none=>none
def QZe(ops:Array Oper)(c:Act)(j:Nat):Value:=match QFd ops j with
 | some d=>c.tmps.getD d undef
 | none=>undef
def Qpb(ops:Array Oper)(A c:Act):Prop:=c.tmps.size=A.tmps.size∧c.defers=A.defers∧∀s,(∀j,QFd ops j≠some s)→c.tmps.getD s undef=A.tmps.getD s undef
def QRb(ops:Array Oper):Bool:=(List.range ops.size).all fun i=>(List.range ops.size).all fun j=>decide (i=j)||(match QFd ops i,QFd ops j with
 | some a,some b=>decide (a≠b)
 | _,_=>true)
theorem QEh{ops:Array Oper}{j d:Nat}(h:QFd ops j=some d):j<ops.size:=by
 unfold QFd at h;by_cases e:j<ops.size
 ·exact e
 rw[Array.getElem?_eq_none (by omega)]at h;cases h
theorem Qsj{ops:Array Oper}(h:QRb ops=true){i j d:Nat}(hi:QFd ops i=some d)(hj:QFd ops j=some d):i=j:=by
 have h1:=List.all_eq_true.1 h i (List.mem_range.2 (QEh hi));have h2:=List.all_eq_true.1 h1 j (List.mem_range.2 (QEh hj));rw[hi,hj]at h2;simpa using h2
def Qhe(ops:Array Oper)(l:Array Bool):Prop:=∀j o,ops[j]? = some o→l.getD j false=true→∀e∈o.after,Region.binds .any e=true→l.getD e.on false=true
theorem Qhe.step{ops:Array Oper}{l:Array Bool}(h:Qhe ops l)(i:Nat)(o:Oper)(ho:ops[i]? = some o)(Ha:∀e∈o.after,Region.binds .any e=true→l.getD e.on false=true):Qhe ops (l.setIfInBounds i true):=by
 have mono:∀j,l.getD j false=true→(l.setIfInBounds i true).getD j false=true:=by
  intro j hj;by_cases e:i=j
  ·subst e;by_cases hi:i<l.size
   ·simp[hi]
   simp[hi]at hj
  simpa[Array.getElem?_setIfInBounds_ne e]using hj
 intro j o' ho' hl e he hb;by_cases e2:j=i
 ·subst e2;rw[ho]at ho';cases ho';exact mono _ (Ha e he hb)
 have gS:l.getD j false=true:=by simpa[Array.getElem?_setIfInBounds_ne (Ne.symm e2)]using hl
 exact mono _ (h j o' ho' gS e he hb)
def QPs(ops:Array Oper)(j i:Nat):Bool:=match ops[j]? with
 | some o=>o.after.any fun e=>decide (e.on=i)&&Region.binds .any e
 | none=>false
theorem Qhe.unlisted{ops:Array Oper}{l:Array Bool}(h:Qhe ops l){i j:Nat}(hi:l.getD i false=false)(hw:QPs ops j i=true):l.getD j false=false:=by
 unfold QPs at hw;cases ho:ops[j]? with
 | none=>rw[ho]at hw;cases hw
 | some o=>
  rw[ho]at hw;simp only at hw;rw[Array.any_eq_true]at hw;obtain⟨q,hq,he⟩:=hw;rw[Bool.and_eq_true,decide_eq_true_iff]at he;cases hl:l.getD j false with
  | false=>rfl
  | true=>
   have:=h j o ho hl o.after[q] (Array.getElem_mem hq) he.2;rw[he.1,hi]at this;cases this
def QCd(ops:Array Oper)(A:Act)(F:Nat→Value→World→Prop)(S:World→Prop)(l:Array Bool)(c:Act)(w:World):Prop:=
 Qpb ops A c∧S w∧(l.size=ops.size∧Qhe ops l)∧∀j,j<ops.size→l.getD j false=true→F j (QZe ops c j) w
theorem QCd.start{ops:Array Oper}{A:Act}{F:Nat→Value→World→Prop}{S:World→Prop}{w:World}(h:S w):QCd ops A F S (Array.replicate ops.size false) A w:=
 ⟨⟨rfl,rfl,fun _ _=>rfl⟩,h,⟨by simp,fun j o ho hl=>by simp[Array.getElem?_replicate]at hl;split at hl <;> simp at hl⟩,fun j hj hl=>by simp[hj]at hl⟩
theorem Qee(c:Act)(d s:Nat)(v:Value)(hd:d<c.tmps.size):(c.put (some d) v).tmps.getD s undef=if d=s then v else c.tmps.getD s undef:=by
 show(c.tmps.setIfInBounds d v).getD s undef=_;by_cases e:d=s
 ·subst e;rw[if_pos rfl];simp[Array.getD_eq_getD_getElem?,hd]
 rw[if_neg e];simp[Array.getD_eq_getD_getElem?,Array.getElem?_setIfInBounds_ne e]
theorem QCd.step{ops:Array Oper}{A c:Act}{F:Nat→Value→World→Prop}{S:World→Prop}{l:Array Bool}{w w':World}(hI:QCd ops A F S l c w)(ha:QRb ops=true)(i d:Nat)(hd:QFd ops i=some d)(hda:d<A.tmps.size)
 (v:Value) (o:Oper) (ho:ops[i]? = some o) (Ha:∀e∈o.after,Region.binds .any e=true→l.getD e.on false=true) (hS:S w') (hm:∀j u,F j u w→F j u w') (hv:F i v w'):QCd ops A F S (l.setIfInBounds i true) (c.put (some d) v) w':=by
 obtain⟨⟨h1,h2,h3⟩,_,h5,h6⟩:=hI;refine⟨⟨?_,h2,?_⟩,hS,⟨by simpa using h5.1,h5.2.step i o ho Ha⟩,?_⟩
 ·show(c.tmps.setIfInBounds d v).size=_;simpa using h1
 ·intro s hs;rw[Qee c d s v (by omega),if_neg (fun e=>hs i (by rw[hd,e]))];exact h3 s hs
 intro j hj hl;by_cases e:j=i
 ·subst e;have:QZe ops (c.put (some d) v) j=v:=by unfold QZe;rw[hd];simp only;rw[Qee c d d v (by omega),if_pos rfl]
  rw[this];exact hv
 have gS:l.getD j false=true:=by simpa[Array.getElem?_setIfInBounds_ne (Ne.symm e)]using hl
 have:QZe ops (c.put (some d) v) j=QZe ops c j:=by
  unfold QZe;cases Ge:QFd ops j with
  | none=>rfl
  | some b=>
   simp only;rw[Qee c d b v (by omega),if_neg (fun x=>e (Qsj ha (by rw[Ge,x]) hd))]
 rw[this];exact hm j _ (h6 j hj gS)
theorem QCd.stepN{ops:Array Oper}{A c:Act}{F:Nat→Value→World→Prop}{S:World→Prop}{l:Array Bool}{w w':World}(hI:QCd ops A F S l c w)(i:Nat)(hd:QFd ops i=none)(o:Oper)(ho:ops[i]? = some o)(Ha:∀e∈o.after,Region.binds .any e=true→l.getD e.on false=true)
 (hS:S w') (hm:∀j u,F j u w→F j u w') (hv:F i undef w'):QCd ops A F S (l.setIfInBounds i true) c w':=by
 obtain⟨fx,_,h5,h6⟩:=hI;refine⟨fx,hS,⟨by simpa using h5.1,h5.2.step i o ho Ha⟩,?_⟩;intro j hj hl;by_cases e:j=i
 ·subst e;have:QZe ops c j=undef:=by unfold QZe;rw[hd]
  rw[this];exact hv
 have gS:l.getD j false=true:=by simpa[Array.getElem?_setIfInBounds_ne (Ne.symm e)]using hl
 exact hm j _ (h6 j hj gS)
theorem QCd.fact{ops:Array Oper}{A c:Act}{F:Nat→Value→World→Prop}{S:World→Prop}{l:Array Bool}{w:World}(hI:QCd ops A F S l c w)(j d:Nat)(hd:QFd ops j=some d)(hl:l.getD j false=true):F j (c.tmps.getD d undef) w:=by
 have:=hI.2.2.2 j (QEh hd) hl;unfold QZe at this;rw[hd]at this;exact this
theorem QCd.other{ops:Array Oper}{A c:Act}{F F':Nat→Value→World→Prop}{S:World→Prop}{l:Array Bool}{w:World}(hI:QCd ops A F S l c w)(h:∀j,l.getD j false=true→∀u,F j u w→F' j u w):QCd ops A F' S l c w:=
 ⟨hI.1,hI.2.1,hI.2.2.1,fun j hj hl=>h j hl _ (hI.2.2.2 j hj hl)⟩
def Q1t(ops:Array Oper)(s:Nat):Bool:=(List.range ops.size).all fun j=>match QFd ops j with
 | some d=>decide (d≠s)
 | none=>true
theorem QCd.slot{ops:Array Oper}{A c:Act}{F:Nat→Value→World→Prop}{S:World→Prop}{l:Array Bool}{w:World}(hI:QCd ops A F S l c w)(s:Nat)(hs:Q1t ops s=true):c.tmps.getD s undef=A.tmps.getD s undef:=by
 refine hI.1.2.2 s fun j e=>?_;have:=List.all_eq_true.1 hs j (List.mem_range.2 (QEh e));rw[e]at this;simp at this
end
def Qwu(ops:Array Oper)(A:Act)(l:Array Bool)(c:Act):Prop:=∀j d,QFd ops j=some d→l.getD j false=false→c.tmps.getD d undef=A.tmps.getD d undef
def Qsb(ops:Array Oper)(A:Act)(F:Nat→Value→World→Prop)(S:World→Prop)(l:Array Bool)(c:Act)(w:World):Prop:=QCd ops A F S l c w∧Qwu ops A l c
theorem QXi{l:Array Bool}{i j:Nat}(h:(l.setIfInBounds i true).getD j false=false)(hi:i<l.size):j≠i∧l.getD j false=false:=by
 by_cases e:i=j
 ·subst e;simp[hi]at h
 exact⟨fun x=>e x.symm,by simpa[Array.getElem?_setIfInBounds_ne e]using h⟩
theorem Qsb.start{ops:Array Oper}{A:Act}{F:Nat→Value→World→Prop}{S:World→Prop}{w:World}(h:S w):Qsb ops A F S (Array.replicate ops.size false) A w:=
 ⟨QCd.start h,fun _ _ _ _=>rfl⟩
theorem Qsb.step{ops:Array Oper}{A c:Act}{F:Nat→Value→World→Prop}{S:World→Prop}{l:Array Bool}{w w':World}(hI:Qsb ops A F S l c w)(ha:QRb ops=true)(i d:Nat)(hd:QFd ops i=some d)(hda:d<A.tmps.size)
 (v:Value) (o:Oper) (ho:ops[i]? = some o) (Ha:∀e∈o.after,Region.binds .any e=true→l.getD e.on false=true) (hS:S w') (hm:∀j u,F j u w→F j u w') (hv:F i v w'):Qsb ops A F S (l.setIfInBounds i true) (c.put (some d) v) w':=by
 refine⟨hI.1.step ha i d hd hda v o ho Ha hS hm hv,?_⟩;intro j e hj hl;obtain⟨h1,h2⟩:=QXi hl (by rw[hI.1.2.2.1.1];exact QEh hd);rw[Qee c d e v (by rw[hI.1.1.1];exact hda),if_neg (fun x=>h1 (Qsj ha (by rw[hj,x]) hd))];exact hI.2 j e hj h2
theorem Qsb.stepN{ops:Array Oper}{A c:Act}{F:Nat→Value→World→Prop}{S:World→Prop}{l:Array Bool}{w w':World}(hI:Qsb ops A F S l c w)(i:Nat)(hd:QFd ops i=none)(o:Oper)(ho:ops[i]? = some o)(Ha:∀e∈o.after,Region.binds .any e=true→l.getD e.on false=true)
 (hS:S w') (hm:∀j u,F j u w→F j u w') (hv:F i undef w'):Qsb ops A F S (l.setIfInBounds i true) c w':=by
 refine⟨hI.1.stepN i hd o ho Ha hS hm hv,?_⟩;intro j e hj hl;obtain⟨h1,h2⟩:=QXi hl (by rw[hI.1.2.2.1.1];exact(Array.getElem?_eq_some_iff.1 ho).1);exact hI.2 j e hj h2
theorem Qsb.fact{ops:Array Oper}{A c:Act}{F:Nat→Value→World→Prop}{S:World→Prop}{l:Array Bool}{w:World}(hI:Qsb ops A F S l c w)(j d:Nat)(hd:QFd ops j=some d)(hl:l.getD j false=true):F j (c.tmps.getD d undef) w:=hI.1.fact j d hd hl
theorem Qsb.slot{ops:Array Oper}{A c:Act}{F:Nat→Value→World→Prop}{S:World→Prop}{l:Array Bool}{w:World}(hI:Qsb ops A F S l c w)(s:Nat)(hs:Q1t ops s=true):c.tmps.getD s undef=A.tmps.getD s undef:=hI.1.slot s hs
theorem QCd.stepL{ops:Array Oper}{A c:Act}{F:Nat→Value→World→Prop}{S:World→Prop}{l:Array Bool}{w w':World}(hI:QCd ops A F S l c w)(ha:QRb ops=true)(i d:Nat)(hd:QFd ops i=some d)(hda:d<A.tmps.size)
 (v:Value) (o:Oper) (ho:ops[i]? = some o) (Ha:∀e∈o.after,Region.binds .any e=true→l.getD e.on false=true) (hS:S w') (hm:∀j,l.getD j false=true→∀u,F j u w→F j u w') (hv:F i v w'):QCd ops A F S (l.setIfInBounds i true) (c.put (some d) v) w':=by
 obtain⟨⟨h1,h2,h3⟩,_,h5,h6⟩:=hI;refine⟨⟨?_,h2,?_⟩,hS,⟨by simpa using h5.1,h5.2.step i o ho Ha⟩,?_⟩
 ·show(c.tmps.setIfInBounds d v).size=_;simpa using h1
 ·intro s hs;rw[Qee c d s v (by omega),if_neg (fun e=>hs i (by rw[hd,e]))];exact h3 s hs
 intro j hj hl;by_cases e:j=i
 ·subst e;have:QZe ops (c.put (some d) v) j=v:=by unfold QZe;rw[hd];simp only;rw[Qee c d d v (by omega),if_pos rfl]
  rw[this];exact hv
 have gS:l.getD j false=true:=by simpa[Array.getElem?_setIfInBounds_ne (Ne.symm e)]using hl
 have:QZe ops (c.put (some d) v) j=QZe ops c j:=by
  unfold QZe;cases Ge:QFd ops j with
  | none=>rfl
  | some b=>
   simp only;rw[Qee c d b v (by omega),if_neg (fun x=>e (Qsj ha (by rw[Ge,x]) hd))]
 rw[this];exact hm j gS _ (h6 j hj gS)
theorem QCd.stepNL{ops:Array Oper}{A c:Act}{F:Nat→Value→World→Prop}{S:World→Prop}{l:Array Bool}{w w':World}(hI:QCd ops A F S l c w)(i:Nat)(hd:QFd ops i=none)(o:Oper)(ho:ops[i]? = some o)(Ha:∀e∈o.after,Region.binds .any e=true→l.getD e.on false=true)
 (hS:S w') (hm:∀j,l.getD j false=true→∀u,F j u w→F j u w') (hv:F i undef w'):QCd ops A F S (l.setIfInBounds i true) c w':=by
 obtain⟨fx,_,h5,h6⟩:=hI;refine⟨fx,hS,⟨by simpa using h5.1,h5.2.step i o ho Ha⟩,?_⟩;intro j hj hl;by_cases e:j=i
 ·subst e;have:QZe ops c j=undef:=by unfold QZe;rw[hd]
  rw[this];exact hv
 have gS:l.getD j false=true:=by simpa[Array.getElem?_setIfInBounds_ne (Ne.symm e)]using hl
 exact hm j gS _ (h6 j hj gS)
theorem Qja{l:Array Bool}{i j:Nat}(h:(l.setIfInBounds i true).getD j false=false):l.getD j false=false:=by
 by_cases e:i=j
 ·subst e;by_cases hi:i<l.size
  ·simp[hi]at h
  simp[hi]
 simpa[Array.getElem?_setIfInBounds_ne e]using h
theorem QUd{l:Array Bool}{i j:Nat}(h:(l.setIfInBounds i true).getD j false=false)(hi:i<l.size):j≠i:=by
 rintro rfl;simp[hi]at h
theorem QCd.lt{ops:Array Oper}{A c:Act}{F:Nat→Value→World→Prop}{S:World→Prop}{l:Array Bool}{w:World}(hI:QCd ops A F S l c w){j:Nat}(h:l.getD j false=true):j<ops.size:=by
 rw[←hI.2.2.1.1];by_cases e:j<l.size
 ·exact e
 simp[e]at h
theorem Q1a{l:Array Bool}{j k:Nat}(h:l.getD j false=true)(h2:l.getD k false=false):j≠k:=by
 rintro rfl;rw[h]at h2;cases h2
theorem Qma{l:Array Bool}{af:Array Edge}(Ha:∀e∈af,Region.binds .any e=true→l.getD e.on false=true)(k:Nat)(h:(af.any fun e=>decide (e.on=k)&&Region.binds .any e)=true):l.getD k false=true:=by
 rw[Array.any_eq_true]at h;obtain⟨q,hq,he⟩:=h;rw[Bool.and_eq_true,decide_eq_true_iff]at he;rw[←he.1];exact Ha _ (Array.getElem_mem hq) he.2
theorem QLn(ct:Array Value)(n:Nat)(h:ct.size=n):ct=((List.range n).map fun i=>ct.getD i undef).toArray:=by
 apply Array.ext
 ·simp[h]
 intro i h1 h2;simp[Array.getD_eq_getD_getElem?,h1]
def QPa:Code→Nat→Option (Array Oper)
 | .region i ops _,n=>if i=n then some ops else none
 | .seq a b,n=>match QPa a n with
  | some x=>some x
  | none=>QPa b n
 | .cond _ a b,n=>match QPa a n with
  | some x=>some x
  | none=>QPa b n
 | .block _ b,n=>QPa b n
 | .loop b,n=>QPa b n
 | .scope b,n=>QPa b n
 | .rangeFunc _ _ a b,n=>match QPa a n with
  | some x=>some x
  | none=>QPa b n
 | _,_=>none
theorem QUa{P:Program}{md:Region.Mode}{ops ops':Array Oper}{Q:Exit→Act→World→Prop}{A:Act}{w:World}(h:ops'=ops)(k:wpAny P md ops' Q ops'.size (Array.replicate ops'.size false) A w) :
 wpAny P md ops Q ops.size (Array.replicate ops.size false) A w:=by subst h;exact k
theorem Qki{P:Program}{c c':Code}{Q:Exit→Act→World→Prop}{a:Act}{w:World}(h:c'=c)(k:c'.wp P Q a w):c.wp P Q a w:=by subst h;exact k
def Qgr:List Nat→Array Value→(Array Value→Prop)→Prop
 | [],t,p=>p t
 | d::ds,t,p=>∃x,Qgr ds (t.setIfInBounds d x) p
def QCs(ops:Array Oper)(ds:List Nat):Bool:=(List.range ops.size).all fun j=>match QFd ops j with
 | some d=>ds.contains d
 | none=>true
theorem QAj(c:Array Value)(p:Array Value→Prop)(hp:p c):∀(ds:List Nat) (t:Array Value),c.size=t.size→(∀s,s ∉ ds→c.getD s undef=t.getD s undef)→Qgr ds t p
 | [],t,hsz,h=>by
  have:c=t:=by
   apply Array.ext hsz;intro i h1 h2;have:=h i (by simp);simpa[Array.getD_eq_getD_getElem?,h1,h2]using this
  show p t;rw[←this];exact hp
 | d::ds,t,hsz,h=>by
  refine⟨c.getD d undef,QAj c p hp ds _ (by simpa using hsz) fun s hs=>?_⟩;by_cases e:d=s
  ·subst e;by_cases hd:d<t.size
   ·simp[Array.getD_eq_getD_getElem?,hd]
   have aG:¬d<c.size:=by omega
   simp[Array.getD_eq_getD_getElem?,hd,aG]
  rw[h s (by simp;exact⟨fun x=>e x.symm,hs⟩)];simp[Array.getD_eq_getD_getElem?,Array.getElem?_setIfInBounds_ne e]
theorem Qpb.ex{ops:Array Oper}{A c:Act}(h:Qpb ops A c)(ds:List Nat)(hc:QCs ops ds=true):Qgr ds A.tmps fun t=>c=⟨t,A.defers⟩:=by
 obtain⟨h1,h2,h3⟩:=h;refine QAj c.tmps _ (by rw[←h2]) ds A.tmps h1 fun s hs=>h3 s fun j hj=>hs ?_;have:=List.all_eq_true.1 hc j (List.mem_range.2 (QEh hj));rw[hj]at this;simpa using this
theorem Qpb.exAt{ops:Array Oper}{A c:Act}(h:Qpb ops A c)(ds:List Nat)(d:Nat)(hc:QCs ops (d::ds)=true):Qgr ds A.tmps fun t=>c=⟨t.setIfInBounds d (c.tmps.getD d undef),A.defers⟩:=by
 obtain⟨h1,h2,h3⟩:=h;refine QAj (c.tmps.setIfInBounds d (A.tmps.getD d undef)) _ ?_ ds A.tmps (by simpa using h1) fun s hs=>?_
 ·have:(c.tmps.setIfInBounds d (A.tmps.getD d undef)).setIfInBounds d (c.tmps.getD d undef)=c.tmps:=by
   apply Array.ext (by simp);intro i k1 k2;by_cases e:d=i
   ·subst e;simp[Array.getD_eq_getD_getElem?,k2]
   rw[Array.getElem_setIfInBounds_ne _ e,Array.getElem_setIfInBounds_ne _ e]
   all_goals simpa using k2
  rw[this,←h2]
 by_cases e:d=s
 ·subst e;by_cases hd:d<c.tmps.size
  ·simp[Array.getD_eq_getD_getElem?,hd]
  have aG:¬d<A.tmps.size:=by omega
  simp[Array.getD_eq_getD_getElem?,hd,aG]
 rw[←h3 s fun j hj=>?_]
 ·simp[Array.getD_eq_getD_getElem?,Array.getElem?_setIfInBounds_ne e]
 have:=List.all_eq_true.1 hc j (List.mem_range.2 (QEh hj));rw[hj]at this;simp at this;rcases this with rfl|this
 ·exact e rfl
 exact hs this
def Qzc(ops:Array Oper):Nat→Nat→Nat→Bool
 | 0,j,i=>decide (j=i)
 | n+1,j,i=>decide (j=i)||(match ops[j]? with
  | some o=>o.after.any fun e=>Region.binds .any e&&Qzc ops n e.on i
  | none=>false)
theorem Qhe.far{ops:Array Oper}{l:Array Bool}(h:Qhe ops l):∀(n j i:Nat),Qzc ops n j i=true→l.getD j false=true→l.getD i false=true:=by
 intro n
 induction n with
 | zero=>intro j i hf hl;simp only[Qzc,decide_eq_true_eq]at hf;subst hf;exact hl
 | succ n ih=>
  intro j i hf hl;simp only[Qzc,Bool.or_eq_true,decide_eq_true_eq]at hf;rcases hf with rfl|hf
  ·exact hl
  cases ho:ops[j]? with
  | none=>rw[ho]at hf;cases hf
  | some o=>
   rw[ho]at hf;simp only at hf;rw[Array.any_eq_true]at hf;obtain⟨q,hq,he⟩:=hf;rw[Bool.and_eq_true]at he;exact ih _ _ he.2 (h j o ho hl o.after[q] (Array.getElem_mem hq) he.1)
theorem Qhe.no_far{ops:Array Oper}{l:Array Bool}(h:Qhe ops l)(n:Nat){j i:Nat}(hi:l.getD i false=false)(hf:Qzc ops n j i=true):l.getD j false=false:=by
 cases hl:l.getD j false with
 | false=>rfl
 | true=>rw[h.far n j i hf hl]at hi;cases hi
theorem Qhe.yes_far{ops:Array Oper}{l:Array Bool}(h:Qhe ops l)(n:Nat){o:Oper}{j:Nat}(ho:ops[j]? = some o)(Ha:∀e∈o.after,Region.binds .any e=true→l.getD e.on false=true){i:Nat}(Hl:j≠i)(hf:Qzc ops (n+1) j i=true):l.getD i false=true:=by
 simp only[Qzc,Bool.or_eq_true,decide_eq_true_eq]at hf;rcases hf with hf|hf
 ·exact absurd hf Hl
 rw[ho]at hf;simp only at hf;rw[Array.any_eq_true]at hf;obtain⟨q,hq,he⟩:=hf;rw[Bool.and_eq_true]at he;exact h.far n _ _ he.2 (Ha _ (Array.getElem_mem hq) he.1)
theorem Qsb.yf{ops:Array Oper}{A c:Act}{F:Nat→Value→World→Prop}{S:World→Prop}{l:Array Bool}{w:World}(hI:Qsb ops A F S l c w)(q d n:Nat){o:Oper}{j:Nat}(ho:ops[j]?=some o)(ha:∀e∈o.after,Region.binds .any e=true→l.getD e.on false=true)(hd:QFd ops q=some d:=by rfl)(hne:j≠q:=by decide)(hf:Qzc ops (n+1) j q=true:=by kernel_rfl):F q (c.tmps.getD d undef) w:=hI.fact q d hd (hI.1.2.2.1.2.yes_far n ho ha hne hf)
theorem Qsb.st{ops:Array Oper}{A c:Act}{F:Nat→Value→World→Prop}{l:Array Bool}{w:World}{n:Nat}(hI:Qsb ops A F (fun _=>True) l c w)(ha:QRb ops=true)(i d:Nat)(hz:A.tmps.size=n){v:Value}{o:Oper}(ho:ops[i]?=some o)(hall:∀e∈o.after,Region.binds .any e=true→l.getD e.on false=true)(hv:F i v w)(hd:QFd ops i=some d:=by rfl)(hn:d<n:=by decide):Qsb ops A F (fun _=>True) (l.setIfInBounds i true) (c.put (some d) v) w:=hI.step ha i d hd (by rw[hz];exact hn) v o ho hall trivial (fun _ _ h=>h) hv
theorem Qsa{l:Array Bool}{i j:Nat}(h:i≠j):(l.setIfInBounds i true).getD j false=l.getD j false:=by
 simp[Array.getD_eq_getD_getElem?,Array.getElem?_setIfInBounds_ne h]
theorem Qjb{l:Array Bool}{i:Nat}(h:i<l.size):(l.setIfInBounds i true).getD i false=true:=by simp[h]
theorem QXg(n j:Nat):(Array.replicate n false).getD j false=false:=by
 rw[Array.getD_eq_getD_getElem?,Array.getElem?_replicate];split <;> rfl
theorem Q0a{c:Act}{d:Nat}{b:Bool}(h:c.tmps.getD d undef=.bool b):c.tmps[d]? = some (.bool b):=by
 rw[Array.getD_eq_getD_getElem?]at h;cases hx:c.tmps[d]? with
 | none=>rw[hx]at h;cases h
 | some v=>rw[hx]at h;rw[show v=.bool b from h]
section
open Go.RowKit Go.ChangeMaps
theorem QNs:WideMaps.KeyLaw prog 9:=WideMaps.string_law underlying9
theorem QMs(s:ByteArray)(h:s.size≤maxLen):keyOf prog 9 (.string s)=some (.string s.data.toList):=WideMaps.keyOf_string_mk underlying9 h
def Qme(w:World)(b:Nat)(l:List (ByteArray × Value)):Prop:=
 ∃es clock,w.heap[b]? = some (.map es clock)∧es.toList.map (fun e=>(e.key,e.val))=l.map (fun p=>(Value.string p.1,p.2))∧(∀p∈l,p.1.size≤1000)
theorem Qme.keys{w:World}{l:List (ByteArray × Value)}{es:Array MapEntry}(hk:es.toList.map (fun e=>(e.key,e.val))=l.map (fun p=>(Value.string p.1,p.2)))(hS:∀p∈l,p.1.size≤1000) :
 ∀e∈es.toList,∃q,keyOf prog 9 e.key=some q:=by
 intro e he;have:(e.key,e.val)∈l.map (fun p=>(Value.string p.1,p.2)):=by rw[←hk];exact List.mem_map.2 ⟨e,he,rfl⟩
 obtain⟨p,hp,e1⟩:=List.mem_map.1 this;have e2:=(Prod.mk.injEq _ _ _ _ ▸ e1:Value.string p.1=e.key∧p.2=e.val).1;rw[←e2];exact⟨_,QMs p.1 (by have:=hS p hp;unfold maxLen;omega)⟩
theorem Qme.new(w:World):Qme (w.alloc (.map #[] 0)) w.heap.size []:=⟨#[],0,heap_alloc_new w _,rfl,by simp⟩
theorem Qme.lt{w:World}{b:Nat}{l:List (ByteArray × Value)}(h:Qme w b l):b<w.heap.size:=by
 obtain⟨es,clock,hb,_⟩:=h;exact lt_of_block hb
theorem Qme.block{w w':World}{b:Nat}{l:List (ByteArray × Value)}(h:Qme w b l)(e:w'.heap[b]? = w.heap[b]?):Qme w' b l:=by
 obtain⟨es,clock,hb,r⟩:=h;exact⟨es,clock,by rw[e];exact hb,r⟩
theorem Qme.alloc{w:World}{b:Nat}{l:List (ByteArray × Value)}(h:Qme w b l)(o:Obj):Qme (w.alloc o) b l:=h.block (heap_alloc_old w o h.lt)
theorem Qme.put{w:World}{b:Nat}{l:List (ByteArray × Value)}(h:Qme w b l)(s:ByteArray)(v:Value)(hs:s.size≤1000)(hn:∀p∈l,p.1≠s) :
 ∃o,(Instr.mapUpdate 266 (.map (some b)) (.string s) v).run prog w=.ok () (setBlock w b o)∧Qme (setBlock w b o) b (l++[(s,v)]):=by
 obtain⟨es,clock,hb,hk,hS⟩:=h;have hl:=QMs s (by unfold maxLen;omega);rcases QNs.find w hl es.toList (Qme.keys (w:=w) hk hS)with⟨h1,h2⟩|⟨j,e0,h1,h2,h3⟩
 ·refine⟨.map (es.push ⟨.string s,v,clock⟩) (clock+1),?_,es.push ⟨.string s,v,clock⟩,clock+1,heap_setBlock_same hb _,?_,?_⟩
  ·simp[Instr.mapUpdate,run_underlying underlying266,MapKept.run_getObj_map hb,QNs.check w false hl,h1,MapKept.run_setObj_map _ hb,Result.andThen,setBlock]
  ·simp[hk]
  intro p hp;rcases List.mem_append.1 hp with hp|hp
  ·exact hS p hp
  simp only[List.mem_singleton]at hp;subst hp;exact hs
 exfalso;have:(e0.key,e0.val)∈l.map (fun p=>(Value.string p.1,p.2)):=by rw[←hk];exact List.mem_map.2 ⟨e0,List.mem_of_getElem? h2,rfl⟩
 obtain⟨p,hp,e1⟩:=List.mem_map.1 this;have e2:=(Prod.mk.injEq _ _ _ _ ▸ e1:Value.string p.1=e0.key∧p.2=e0.val).1;rw[h3]at e2;exact hn p hp (by injection e2)
theorem Q5o{B:Nat}{a w:World}{b:Nat}{o:Obj}(h:Below B a w)(hb:B≤b):Below B a (setBlock w b o):=
 ⟨h.os,h.tape,h.output,by simpa[setBlock]using h.size,fun i hi=>by
  rw[←h.block i hi];simp only[setBlock];exact Array.getElem?_setIfInBounds_ne (by omega)⟩
def Tab(W w:World)(l:List (Nat × List (ByteArray × Value))):Prop:=Below W.heap.size W w∧(∀p∈l,W.heap.size≤p.1∧Qme w p.1 p.2)∧(l.map (·.1)).Nodup
theorem Tab.start(w:World):Tab w w []:=⟨Below.refl _ _,by simp,by simp⟩
theorem Tab.new{W w:World}{l:List (Nat × List (ByteArray × Value))}(h:Tab W w l)(t:TypeId):∃w' b,(Instr.makeMap t none).run prog w=.ok (.map (some b)) w'∧Tab W w' (l++[(b,[])]):=by
 obtain⟨h1,h2,h3⟩:=h;refine⟨_,_,run_makeMap t w,h1.alloc h1.size _,?_,?_⟩
 ·intro p hp;rcases List.mem_append.1 hp with hp|hp
  ·exact⟨(h2 p hp).1,(h2 p hp).2.alloc _⟩
  rw[List.mem_singleton]at hp;subst hp;exact⟨h1.size,Qme.new w⟩
 rw[List.map_append,List.nodup_append];refine⟨h3,by simp,?_⟩;intro a ha b hb e;simp only[List.map_cons,List.map_nil,List.mem_singleton]at hb;obtain⟨p,hp,rfl⟩:=List.mem_map.1 ha;have:=(h2 p hp).2.lt;omega
theorem Tab.put{W w:World}{l:List (Nat × List (ByteArray × Value))}{b:Nat}{fs:List (ByteArray × Value)}(h:Tab W w (l++[(b,fs)]))(s:ByteArray)(v:Value)(hs:s.size≤1000)(hn:∀p∈fs,p.1≠s) :
 ∃w',(Instr.mapUpdate 266 (.map (some b)) (.string s) v).run prog w=.ok () w'∧Tab W w' (l++[(b,fs++[(s,v)])]):=by
 obtain⟨h1,h2,h3⟩:=h;obtain⟨hb,hf⟩:=h2 (b,fs) (by simp);obtain⟨o,Gw,jq⟩:=hf.put s v hs hn;refine⟨_,Gw,Q5o h1 hb,?_,by simpa using h3⟩;intro p hp;rcases List.mem_append.1 hp with hp|hp
 ·have Hl:p.1≠b:=by
   rw[List.map_append,List.nodup_append]at h3;exact h3.2.2 p.1 (List.mem_map.2 ⟨p,hp,rfl⟩) b (by simp)
  refine⟨(h2 p (by simp[hp])).1,(h2 p (by simp[hp])).2.block ?_⟩;simp only[setBlock];exact Array.getElem?_setIfInBounds_ne (Ne.symm Hl)
 rw[List.mem_singleton]at hp;subst hp;exact⟨hb,jq⟩
end
section
open Go.RowKit
def Qxr(h:Bool):Int:=if h=true then 1 else 0
def Q6u:Nat→Int→Int→Int
 | 1,a,b=>a*b % 4294967296
 | 2,a,b=>a / b
 | 3,a,b=>a % b
 | 4,a,b=>(a+b) % 4294967296
 | 5,a,b=>(a-b) % 4294967296
 | 6,a,b=>a*2 ^ min b.toNat 32 % 4294967296
 | 7,a,b=>a / 2 ^ min b.toNat 32
 | 8,a,b=>Qxr (decide (a<b))
 | 9,a,b=>Qxr (decide (b<a))
 | 10,a,b=>Qxr (decide (a≤b))
 | 11,a,b=>Qxr (decide (b≤a))
 | 12,a,b=>Qxr (a==b)
 | 13,a,b=>Qxr (a != b)
 | 14,a,b=>bits .and .u32 a b
 | 15,a,b=>bits .xor .u32 a b
 | 16,a,b=>bits .or .u32 a b
 | 17,a,b=>Qxr (a != 0&&b != 0)
 | 18,a,b=>Qxr (a != 0||b != 0)
 | _,_,_=>0
def fnT:Nat→Value
 | 1=>.func (.func 237) #[] #[]
 | 2=>.func (.func 238) #[] #[]
 | 3=>.func (.func 239) #[] #[]
 | 4=>.func (.func 240) #[] #[]
 | 5=>.func (.func 241) #[] #[]
 | 6=>.func (.func 242) #[] #[]
 | 7=>.func (.func 243) #[] #[]
 | 8=>.func (.func 244) #[] #[]
 | 9=>.func (.func 246) #[] #[]
 | 10=>.func (.func 247) #[] #[]
 | 11=>.func (.func 248) #[] #[]
 | 12=>.func (.func 249) #[] #[]
 | 13=>.func (.func 250) #[] #[]
 | 14=>.func (.func 251) #[] #[]
 | 15=>.func (.func 252) #[] #[]
 | 16=>.func (.func 253) #[] #[]
 | 17=>.func (.func 254) #[] #[]
 | 18=>.func (.func 255) #[] #[]
 | _=>.nilFunc
def Q8g:List (List (ByteArray × Nat)):=[[(⟨#[42]⟩,1),(⟨#[47]⟩,2),(⟨#[37]⟩,3)],[(⟨#[43]⟩,4),(⟨#[45]⟩,5)],[(⟨#[60,60]⟩,6),(⟨#[62,62]⟩,7)],[(⟨#[60]⟩,8),(⟨#[62]⟩,9),(⟨#[60,61]⟩,10),(⟨#[62,61]⟩,11)],[(⟨#[61,61]⟩,12),(⟨#[33,61]⟩,13)],[(⟨#[38]⟩,14)],[(⟨#[94]⟩,15)],[(⟨#[124]⟩,16)],[(⟨#[38,38]⟩,17)],[(⟨#[124,124]⟩,18)]]
def QLh(l:List (ByteArray × Nat)):List (ByteArray × Value):=l.map fun p=>(p.1,fnT p.2)
def Qoh(w:World)(g:Nat)(bs:List Nat):Prop:=
 Holds w g (bs.map fun b=>Value.map (some b)).toArray 266∧bs.length=10∧∀(i:Nat) (h:i<bs.length),Qme w bs[i] (QLh (Q8g.getD i []))
theorem Qup(w:World):Calls prog 233 #[] w fun e w'=>∃g bs,e=.returned (.slice (some ⟨g,0,none⟩) 10 10)∧Qoh w' g bs∧(∀b∈bs,w.heap.size≤b∧b<g)∧w.heap.size≤g∧g+1=w'.heap.size∧Below w.heap.size w w':=by
 have h0:=Tab.start w;obtain⟨x1,b0,p1,h1⟩:=h0.new 266;obtain⟨x2,p2,h2⟩:=h1.put ⟨#[42]⟩ (fnT 1) (by decide) (by decide);obtain⟨x3,p3,h3⟩:=h2.put ⟨#[47]⟩ (fnT 2) (by decide) (by decide);obtain⟨x4,p4,h4⟩:=h3.put ⟨#[37]⟩ (fnT 3) (by decide) (by decide);obtain⟨x5,b1,p5,h5⟩:=h4.new 266;obtain⟨x6,p6,h6⟩:=h5.put ⟨#[43]⟩ (fnT 4) (by decide) (by decide);obtain⟨x7,p7,h7⟩:=h6.put ⟨#[45]⟩ (fnT 5) (by decide) (by decide);obtain⟨x8,b2,p8,h8⟩:=h7.new 266;obtain⟨x9,p9,h9⟩:=h8.put ⟨#[60,60]⟩ (fnT 6) (by decide) (by decide);obtain⟨x10,p10,gR⟩:=h9.put ⟨#[62,62]⟩ (fnT 7) (by decide) (by decide);obtain⟨x11,b3,p11,i2⟩:=gR.new 266;obtain⟨x12,p12,MC⟩:=i2.put ⟨#[60]⟩ (fnT 8) (by decide) (by decide);obtain⟨x13,p13,M3⟩:=MC.put ⟨#[62]⟩ (fnT 9) (by decide) (by decide);obtain⟨x14,p14,qA⟩:=M3.put ⟨#[60,61]⟩ (fnT 10) (by decide) (by decide);obtain⟨x15,p15,fA⟩:=qA.put ⟨#[62,61]⟩ (fnT 11) (by decide) (by decide);obtain⟨x16,b4,p16,Jv⟩:=fA.new 266;obtain⟨x17,p17,wR⟩:=Jv.put ⟨#[61,61]⟩ (fnT 12) (by decide) (by decide);obtain⟨x18,p18,dV⟩:=wR.put ⟨#[33,61]⟩ (fnT 13) (by decide) (by decide);obtain⟨x19,b5,p19,i3⟩:=dV.new 266;obtain⟨x20,p20,wT⟩:=i3.put ⟨#[38]⟩ (fnT 14) (by decide) (by decide);obtain⟨x21,b6,p21,wU⟩:=wT.new 266;obtain⟨x22,p22,wV⟩:=wU.put ⟨#[94]⟩ (fnT 15) (by decide) (by decide);obtain⟨x23,b7,p23,wW⟩:=wV.new 266;obtain⟨x24,p24,jE⟩:=wW.put ⟨#[124]⟩ (fnT 16) (by decide) (by decide);obtain⟨x25,b8,p25,wX⟩:=jE.new 266;obtain⟨x26,p26,wY⟩:=wX.put ⟨#[38,38]⟩ (fnT 17) (by decide) (by decide);obtain⟨x27,b9,p27,wZ⟩:=wY.new 266
 obtain⟨x28,p28,zF⟩:=wZ.put ⟨#[124,124]⟩ (fnT 18) (by decide) (by decide);simp only[fnT]at p1 p2 p3 p4 p5 p6 p7 p8 p9 p10 p11 p12 p13 p14 p15 p16 p17 p18 p19 p20 p21 p22 p23 p24 p25 p26 p27 p28;obtain⟨q1,q2,q3⟩:=zF;have bD:=Lib.hid q2;clear h0 h1 h2 h3 h4 h5 h6 h7 h8 h9 gR i2 MC M3 qA fA Jv wR dV i3 wT wU wV wW jE wX wY wZ q2 q3;go_enter func233,ntmps233;go_wp2_with fail;go_ret;have hsz:=q1.size;have f0:=bD.out (b0,QLh (Q8g.getD 0 [])) (List.mem_append.2 (.inl (List.mem_append.2 (.inl (List.mem_append.2 (.inl (List.mem_append.2 (.inl (List.mem_append.2 (.inl (List.mem_append.2 (.inl (List.mem_append.2 (.inl (List.mem_append.2 (.inl (List.mem_append.2 (.inl (List.mem_append.2 (.inr (List.mem_singleton.2 rfl)))))))))))))))))))));have f1:=bD.out (b1,QLh (Q8g.getD 1 [])) (List.mem_append.2 (.inl (List.mem_append.2 (.inl (List.mem_append.2 (.inl (List.mem_append.2 (.inl (List.mem_append.2 (.inl (List.mem_append.2 (.inl (List.mem_append.2 (.inl (List.mem_append.2 (.inl (List.mem_append.2 (.inr (List.mem_singleton.2 rfl)))))))))))))))))));have f2:=bD.out (b2,QLh (Q8g.getD 2 [])) (List.mem_append.2 (.inl (List.mem_append.2 (.inl (List.mem_append.2 (.inl (List.mem_append.2 (.inl (List.mem_append.2 (.inl (List.mem_append.2 (.inl (List.mem_append.2 (.inl (List.mem_append.2 (.inr (List.mem_singleton.2 rfl)))))))))))))))));have f3:=bD.out (b3,QLh (Q8g.getD 3 [])) (List.mem_append.2 (.inl (List.mem_append.2 (.inl (List.mem_append.2 (.inl (List.mem_append.2 (.inl (List.mem_append.2 (.inl (List.mem_append.2 (.inl (List.mem_append.2 (.inr (List.mem_singleton.2 rfl)))))))))))))))
 have f4:=bD.out (b4,QLh (Q8g.getD 4 [])) (List.mem_append.2 (.inl (List.mem_append.2 (.inl (List.mem_append.2 (.inl (List.mem_append.2 (.inl (List.mem_append.2 (.inl (List.mem_append.2 (.inr (List.mem_singleton.2 rfl)))))))))))));have f5:=bD.out (b5,QLh (Q8g.getD 5 [])) (List.mem_append.2 (.inl (List.mem_append.2 (.inl (List.mem_append.2 (.inl (List.mem_append.2 (.inl (List.mem_append.2 (.inr (List.mem_singleton.2 rfl)))))))))));have f6:=bD.out (b6,QLh (Q8g.getD 6 [])) (List.mem_append.2 (.inl (List.mem_append.2 (.inl (List.mem_append.2 (.inl (List.mem_append.2 (.inr (List.mem_singleton.2 rfl)))))))));have f7:=bD.out (b7,QLh (Q8g.getD 7 [])) (List.mem_append.2 (.inl (List.mem_append.2 (.inl (List.mem_append.2 (.inr (List.mem_singleton.2 rfl)))))));have f8:=bD.out (b8,QLh (Q8g.getD 8 [])) (List.mem_append.2 (.inl (List.mem_append.2 (.inr (List.mem_singleton.2 rfl)))));have f9:=bD.out (b9,QLh (Q8g.getD 9 [])) (List.mem_append.2 (.inr (List.mem_singleton.2 rfl)));exact⟨_,[b0,b1,b2,b3,b4,b5,b6,b7,b8,b9],rfl,⟨Holds.new _ _ _,rfl,(fun i h=>by
  have hi:i=0∨i=1∨i=2∨i=3∨i=4∨i=5∨i=6∨i=7∨i=8∨i=9:=by simp at h;omega
  rcases hi with rfl|rfl|rfl|rfl|rfl|rfl|rfl|rfl|rfl|rfl
  ·exact f0.2.alloc _
  ·exact f1.2.alloc _
  ·exact f2.2.alloc _
  ·exact f3.2.alloc _
  ·exact f4.2.alloc _
  ·exact f5.2.alloc _
  ·exact f6.2.alloc _
  ·exact f7.2.alloc _
  ·exact f8.2.alloc _
  ·exact f9.2.alloc _)⟩,(fun b hb=>by
  simp only[List.mem_cons,List.not_mem_nil,or_false]at hb;rcases hb with rfl|rfl|rfl|rfl|rfl|rfl|rfl|rfl|rfl|rfl
  ·exact⟨f0.1,f0.2.lt⟩
  ·exact⟨f1.1,f1.2.lt⟩
  ·exact⟨f2.1,f2.2.lt⟩
  ·exact⟨f3.1,f3.2.lt⟩
  ·exact⟨f4.1,f4.2.lt⟩
  ·exact⟨f5.1,f5.2.lt⟩
  ·exact⟨f6.1,f6.2.lt⟩
  ·exact⟨f7.1,f7.2.lt⟩
  ·exact⟨f8.1,f8.2.lt⟩
  exact⟨f9.1,f9.2.lt⟩),hsz,by simp,q1.alloc hsz _⟩
def QKd(L:List (Int × ByteArray × Int))(i:Nat):ByteArray:=match L[i]? with
 | some t=>if t.1=4 then t.2.1 else⟨#[]⟩
 | none=>⟨#[]⟩
def Q2u(k:Nat)(s:ByteArray):Option Nat:=((Q8g.getD k []).find? fun p=>decide (p.1=s)).map (·.2)
def unB(s:ByteArray):Bool:=decide (s=⟨#[45]⟩)||decide (s=⟨#[126]⟩)||decide (s=⟨#[33]⟩)
def unT(s:ByteArray)(v:Int):Int:=if s=⟨#[45]⟩then -v % 4294967296 else if s=⟨#[126]⟩then 4294967295-v else Qxr (v==0)
def orF(a b:Bool × Bool × Bool):Bool × Bool × Bool:=(a.1||b.1,a.2.1||b.2.1,a.2.2||b.2.2)
def noF:Bool × Bool × Bool:=(false,false,false)
def QYu(f:Nat)(v:Int):Bool:=v==0&&(decide (f=2)||decide (f=3))
inductive Wh where
 | prim:Wh
 | opnd:Wh
 | lvl:Nat→Wh
 | loop:Nat→Int→Wh
 | whole:Wh
def evT(L:List (Int × ByteArray × Int)):Nat→Wh→Nat→Nat→Option (Option (Int × Nat × Bool × Bool × Bool))
 | 0,_,_,_=>none
 | n+1,.prim,d,i=>
  if QKd L i=⟨#[40]⟩then(evT L n .whole (d+1) (i+1)).map fun r=>r.bind fun q=>if QKd L q.2.1=⟨#[41]⟩then some (q.1,q.2.1+1,q.2.2)else none
  else some (match L[i]? with
   | some t=>if t.1=2 then some (t.2.2 % 4294967296,i+1,decide (8<d),decide (t.2.2<0)||decide (4294967295<t.2.2),false)else none
   | none=>none)
 | n+1,.opnd,d,i=>if unB (QKd L i)=true then(evT L n .opnd d (i+1)).map fun r=>r.map fun q=>(unT (QKd L i) q.1,q.2)else evT L n .prim d i
 | n+1,.lvl 0,d,i=>evT L n .opnd d i
 | n+1,.lvl (k+1),d,i=>(evT L n (.lvl k) d i).bind fun r=>match r with
  | none=>some none
  | some q=>(evT L n (.loop k q.1) d q.2.1).map fun r2=>r2.map fun q2=>(q2.1,q2.2.1,orF q.2.2 q2.2.2)
 | n+1,.loop k v,d,i=>match Q2u k (QKd L i)with
  | none=>some (some (v,i,noF))
  | some f=>(evT L n (.lvl k) d (i+1)).bind fun r=>match r with
   | none=>some none
   | some q=>(evT L n (.loop k (Q6u f v (if QYu f q.1=true then 1 else q.1))) d q.2.1).map fun r2=>r2.map fun q2=>(q2.1,q2.2.1,orF (orF q.2.2 (false,false,QYu f q.1)) q2.2.2)
 | n+1,.whole,d,i=>(evT L n (.lvl 10) d i).bind fun r=>match r with
  | none=>some none
  | some q=>if QKd L q.2.1=⟨#[63]⟩then(evT L n .whole d (q.2.1+1)).bind fun r2=>match r2 with
   | none=>some none
   | some y=>if QKd L y.2.1=⟨#[58]⟩then(evT L n .whole d (y.2.1+1)).map fun r3=>r3.map fun z=>(if q.1=0 then z.1 else y.1,z.2.1,orF (orF q.2.2 y.2.2) z.2.2)else some none
   else some (some q)
theorem Qbt(L:List (Int × ByteArray × Int)):∀(n:Nat) (W:Wh) (d i:Nat) (r:Option (Int × Nat × Bool × Bool × Bool)),evT L n W d i=some r→evT L (n+1) W d i=some r:=by
 intro n
 induction n with
 | zero=>intro W d i r h;simp[evT]at h
 | succ n ih=>
  intro W d i r h;cases W with
  | prim=>
   simp only[evT]at h ⊢;by_cases hp:QKd L i=⟨#[40]⟩
   ·rw[if_pos hp]at h ⊢;obtain⟨q,hq,e⟩:=Option.map_eq_some_iff.1 h;have:=ih _ _ _ _ hq;simp only[evT]at this;rw[this];simpa using e
   rw[if_neg hp]at h ⊢;exact h
  | opnd=>
   simp only[evT]at h ⊢;by_cases hp:unB (QKd L i)=true
   ·rw[if_pos hp]at h ⊢;obtain⟨q,hq,e⟩:=Option.map_eq_some_iff.1 h;have:=ih _ _ _ _ hq;simp only[evT]at this;rw[this];simpa using e
   rw[if_neg hp]at h ⊢;have:=ih _ _ _ _ h;simp only[evT]at this;exact this
  | lvl k=>
   cases k with
   | zero=>
    simp only[evT]at h ⊢;have:=ih _ _ _ _ h;simp only[evT]at this;exact this
   | succ k=>
    rw[evT]at h ⊢;obtain⟨q,hq,e⟩:=Option.bind_eq_some_iff.1 h;rw[ih _ _ _ _ hq];show(match q with|none=>some none|some q=>_)=_;cases q with
    | none=>exact e
    | some q=>
     obtain⟨q2,KI,e2⟩:=Option.map_eq_some_iff.1 e;show Option.map _ _=_;rw[ih _ _ _ _ KI];simpa using e2
  | loop k v=>
   rw[evT]at h ⊢;cases hr:Q2u k (QKd L i)with
   | none=>rw[hr]at h;exact h
   | some f=>
    rw[hr]at h;obtain⟨q,hq,e⟩:=Option.bind_eq_some_iff.1 h;show Option.bind _ _=_;rw[ih _ _ _ _ hq];show(match q with|none=>some none|some q=>_)=_;cases q with
    | none=>exact e
    | some q=>
     obtain⟨q2,KI,e2⟩:=Option.map_eq_some_iff.1 e;show Option.map _ _=_;rw[ih _ _ _ _ KI];simpa using e2
  | whole=>
   rw[evT]at h ⊢;obtain⟨q,hq,e⟩:=Option.bind_eq_some_iff.1 h;rw[ih _ _ _ _ hq];show(match q with|none=>some none|some q=>_)=_;cases q with
   | none=>exact e
   | some q=>
    show(if QKd L q.2.1=⟨#[63]⟩then _ else _)=_;have e':(if QKd L q.2.1=⟨#[63]⟩then _ else _)=_:=e;by_cases hs:QKd L q.2.1=⟨#[63]⟩
    ·rw[if_pos hs]at e' ⊢;obtain⟨y,hy,ey⟩:=Option.bind_eq_some_iff.1 e';rw[ih _ _ _ _ hy];show(match y with|none=>some none|some y=>_)=_;cases y with
     | none=>exact ey
     | some y=>
      show(if QKd L y.2.1=⟨#[58]⟩then _ else _)=_;have ey':(if QKd L y.2.1=⟨#[58]⟩then _ else _)=_:=ey;by_cases hc:QKd L y.2.1=⟨#[58]⟩
      ·rw[if_pos hc]at ey' ⊢;obtain⟨z,hz,ez⟩:=Option.map_eq_some_iff.1 ey';rw[ih _ _ _ _ hz];simpa using ez
      rw[if_neg hc]at ey' ⊢;exact ey'
    rw[if_neg hs]at e' ⊢;exact e'
theorem Q0t(L:List (Int × ByteArray × Int)){n m:Nat}(Ht:n≤m){W:Wh}{d i:Nat}{r:Option (Int × Nat × Bool × Bool × Bool)}(h:evT L n W d i=some r):evT L m W d i=some r:=by
 obtain⟨k,rfl⟩:∃k,m=n+k:=⟨m-n,by omega⟩;clear Ht
 induction k with
 | zero=>exact h
 | succ k ih=>exact Qbt L _ _ _ _ _ ih
def Rd(L:List (Int × ByteArray × Int))(W:Wh)(d i:Nat)(r:Option (Int × Nat × Bool × Bool × Bool)):Prop:=∃n,evT L n W d i=some r
theorem Rd.det{L:List (Int × ByteArray × Int)}{W:Wh}{d i:Nat}{r s:Option (Int × Nat × Bool × Bool × Bool)}(h:Rd L W d i r)(k:Rd L W d i s):r=s:=by
 obtain⟨n,h⟩:=h;obtain⟨m,k⟩:=k;have h1:=Q0t L (Nat.le_max_left n m) h;have h2:=Q0t L (Nat.le_max_right n m) k;rw[h1]at h2;exact Option.some.inj h2
end
end Go.Proofs.YtgaboghigefgbaaGreatDoor
