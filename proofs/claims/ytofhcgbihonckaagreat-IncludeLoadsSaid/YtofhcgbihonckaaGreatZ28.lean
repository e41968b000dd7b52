/- bringupref04: member: the region that reads a property's name and makes its definition. | bringupref04: member at a label (printed by gr4v.py). | bringupref04: member at a label (printed by gr4v.py). | bringupref04: top, include (printed by gr4x.py). | bringupref04: top, a node's deletion (printed by gr4x.py). | bringupref04: top, a reference (printed by gr4y.py). | bringupref04: top, no label (printed by gr4y.py). | bringupref04: top, a label (printed by gr4y.py). -/
import Derived.Test.YtofhcgbihonckaaGreatZ26
import Derived.Test.YtofhcgbihonckaaGreatZ1
import Derived.Deep.DeepCutAuto
import Derived.Test.YtofhcgbihonckaaGreatZ16
set_option linter.all false
set_option maxHeartbeats 8000000
namespace Go.Proofs.YtofhcgbihonckaaGreat
open Go.Lib (hid)
open Go.RowKit
noncomputable def Q5e:Array Oper:=(Qfc (Tryz.f109.body.getD .skip) 21).getD #[]
theorem pgR:QJf .any Q5e=true:=by kernel_rfl
theorem QWq:QGf Q5e=true:=by kernel_rfl
theorem Qxr:Q5e.size=6:=by kernel_rfl
def PgF(r:Nat)(file tl tc:Int)(Y:ByteArray)(Z:Nat)(j:Nat):Value→World→Prop:=match j with
 | 0=>fun u _=>u = .pointer (some ⟨r,0,none⟩)
 | 1=>fun u _=>u = .string Y
 | 2=>fun u _=>u = .agg #[.int .i64 file,.int .i64 tl,.int .i64 tc]
 | 3=>fun u _=>u = .agg #[.int .i64 3,.string ⟨#[]⟩,.string Y,.slice none 0 0,.int .i64 file,.int .i64 tl,.int .i64 tc]
 | 4=>fun u _=>u = .pointer (some ⟨Z,0,none⟩)
 | _=>fun _ _=>True
def RT(r base:Nat)(file:Int)(L:List Tok)(lv ov:Value)(D:List Qwa)(T:Rs Nat)(X Y:ByteArray)(w:World):Prop:=(∃j,T = .ok j∧Y=X∧Q4a w r base file L lv ov j D)∨∃k c,T = .error (k,c)∧QIb w r file L k c
def QQp:Array Value:=#[.int .i64 0,.string ⟨#[]⟩,.string ⟨#[]⟩,.slice none 0 0,.int .i64 0,.int .i64 0,.int .i64 0]
def Qbo(file tl tc:Int)(Y:ByteArray):Array Value:=#[.int .i64 3,.string ⟨#[]⟩,.string Y,.slice none 0 0,.int .i64 file,.int .i64 tl,.int .i64 tc]
structure PgE(r base P:Nat)(file:Int)(L:List Tok)(lv ov:Value)(i:Nat)(D:List Qwa)(T:Rs Nat)(X:ByteArray)(tl tc:Int)(W:World)(Y:ByteArray)(Z:Nat)(l:Array Bool)(w:World):Prop where
 n1:l.getD 1 false=false→Q4a w r base file L lv ov i D
 y1:l.getD 1 false=true→RT r base file L lv ov D T X Y w
 pos:Qca w P #[.int .i64 file,.int .i64 tl,.int .i64 tc] 27
 n5:l.getD 4 false=true→l.getD 5 false=false→Qca w Z QQp 34∧W.heap.size≤Z∧Z≠r
 y5:l.getD 5 false=true→Qca w Z (Qbo file tl tc Y) 34∧W.heap.size≤Z∧Z≠r
section
variable{r base P:Nat}{file:Int}{L:List Tok}{lv ov:Value}{i:Nat}{D:List Qwa}{T:Rs Nat}{X:ByteArray}{tl tc:Int}{W w w':World}{Y:ByteArray}{Z:Nat}{l:Array Bool}{j:Nat}
theorem PgF.world{u:Value}(h:PgF r file tl tc Y Z j u w):PgF r file tl tc Y Z j u w':=by
 unfold PgF at *
 split at h
 all_goals exact h
theorem PgF.gh_Y{x:ByteArray}{u:Value}(h:PgF r file tl tc Y Z j u w)(n1:j≠1)(n3:j≠3):PgF r file tl tc x Z j u w:=by
 unfold PgF at *
 split at h
 all_goals first
  | exact h
  | exact absurd rfl n1
  | exact absurd rfl n3
theorem PgF.gh_Z{x:Nat}{u:Value}(h:PgF r file tl tc Y Z j u w)(n4:j≠4):PgF r file tl tc Y x j u w:=by
 unfold PgF at *
 split at h
 all_goals first
  | exact h
  | exact absurd rfl n4
theorem RT.keeps(h:RT r base file L lv ov D T X Y w)(k:Qaa (fun _=>False) w w'):RT r base file L lv ov D T X Y w':=by
 rcases h with⟨j,e1,e2,e3⟩|⟨k',c,e1,e2⟩
 ·exact .inl ⟨j,e1,e2,e3.keeps k⟩
 ·exact .inr ⟨k',c,e1,e2.keeps k (fun e=>e)⟩
theorem RT.turn(h:RT r base file L lv ov D T X Y w)(h0:Q4a W r base file L lv ov i D)(GV:∀j,T = .ok j→i≤j)(k:Qaa (· = r) W w')(ho:∀{xs:Array Value} {t:TypeId},Qca w r xs t→Qca w' r xs t):RT r base file L lv ov D T X Y w':=by
 rcases h with⟨j,e1,e2,e3⟩|⟨k',c,e1,e0,lv',x',ov',hx⟩
 ·exact .inl ⟨j,e1,e2,h0.turn k (ho e3.holds) e3.lt (GV j e1)⟩
 ·exact .inr ⟨k',c,e1,e0,lv',x',ov',ho hx⟩
theorem PgE.put(h:PgE r base P file L lv ov i D T X tl tc W Y Z l w)(n1:j≠1)(n4:j≠4)(n5:j≠5):PgE r base P file L lv ov i D T X tl tc W Y Z (l.setIfInBounds j true) w:=by
 constructor
 ·rw[Qea n1];exact h.n1
 ·rw[Qea n1];exact h.y1
 ·exact h.pos
 ·rw[Qea n4,Qea n5];exact h.n5
 ·rw[Qea n5];exact h.y5
end
theorem QIm{n j:Nat}:(Array.replicate n false).getD j false=false:=by
 rw[Array.getD_eq_getD_getElem?]
 by_cases h:j<n
 ·rw[Array.getElem?_replicate,if_pos h];rfl
 ·rw[Array.getElem?_replicate,if_neg h];rfl
set_option maxRecDepth 100000 in
theorem Qyg{Q:Exit→Act→World→Prop}(r base P:Nat)(file:Int)(L:List Tok)(lv ov:Value)(i:Nat)(D:List Qwa)(T:Rs Nat)(X:ByteArray)(tl tc:Int)(W w:World)(A:Act)(gn:A.tmps.size=191)
 (h0:Q4a W r base file L lv ov i D) (GV:∀j,T = .ok j→i≤j) (G2:P≠r) (hw:Q4a w r base file L lv ov i D) (hP:Qca w P #[.int .i64 file,.int .i64 tl,.int .i64 tc] 27)
 (hword:∀wx:World,Q4a wx r base file L lv ov i D→Calls Tryz.prog 65 #[.pointer (some ⟨r,0,none⟩),.int .i64 1,.int .i64 2] wx fun e w'=>∃Y:ByteArray,Qaa (· = r) wx w'∧e = .returned (.string Y)∧RT r base file L lv ov D T X Y w')
 (a0:A.tmps.getD 0 undef = .pointer (some ⟨r,0,none⟩)) (a4:A.tmps.getD 4 undef = .pointer (some ⟨P,0,none⟩)) (hS0:Qaa (· = r) W w)
 (hQ:∀c w' Z Y,Q1d Q5e A c→Qaa (· = r) W w'→c.tmps.getD 7 undef = .pointer (some ⟨Z,0,none⟩)→Qca w' Z (Qbo file tl tc Y) 34→W.heap.size≤Z→Z≠r→RT r base file L lv ov D T X Y w'→Q .normal c w') :
 wpAny Tryz.prog .any Q5e Q Q5e.size (Array.replicate Q5e.size false) A w:=by
 refine Qzd (fun l c wx=>∃Y Z,QPf Q5e A (PgF r file tl tc Y Z) (fun wx=>Qaa (· = r) W wx) l c wx∧PgE r base P file L lv ov i D T X tl tc W Y Z l wx) pgR ?gj ?KS _ _ _ _ (by simp) (by simp)
  ⟨⟨#[]⟩,0,QPf.start hS0,⟨fun _=>hw,fun h=>by rw[QIm]at h;(cases h),hP,fun h=>by rw[QIm]at h;(cases h),fun h=>by rw[QIm]at h;(cases h)⟩⟩
 case gj=>
  rintro l c wx ⟨Y,Z,hI,hE⟩ hl
  have hh:∀k,k<6→l.getD k false=true:=fun k hk=>hl k (by rw[Qxr];exact hk)
  obtain⟨q1,q2,q3⟩:=hE.y5 (hh 5 (by decide))
  exact hQ c wx Z Y hI.1 hI.2.1 (hI.fact 4 7 rfl (hh 4 (by decide))) q1 q2 q3 (hE.y1 (hh 1 (by decide)))
 intro l c wx cT i' op ho hl Ha K' hK'
 obtain⟨Y,Z,hI,hE⟩:=cT
 have ak:l.size=6:=by rw[hI.2.2.1.1,Qxr]
 have hi':i'<6:=by rw[←Qxr];exact(Array.getElem?_eq_some_iff.1 ho).1
 have gG:=ho
 simp only[Q5e,Qfc,Tryz.f109,Option.getD_some,reduceIte,Nat.reduceEqDiff]at ho
 have hS:=hI.2.1
 have s0:=(hI.slot 0 (by kernel_rfl)).trans a0
 have s4:=(hI.slot 4 (by kernel_rfl)).trans a4
 simp only[Array.getD_eq_getD_getElem?]at s0 s4
 have dh:i'=0∨i'=1∨i'=2∨i'=3∨i'=4∨i'=5:=by omega
 clear hi'
 rcases dh with rfl|rfl|rfl|rfl|rfl|rfl
 all_goals cases ho
 ·go_simp
  exact hK' _ _ ⟨Y,Z,hI.step QWq 0 136 rfl (by rw[gn];decide) _ _ gG Ha hS (fun _ _ h=>PgF.world h) rfl,hE.put (by decide) (by decide) (by decide)⟩
 ·have e0:c.tmps.getD 136 undef = .pointer (some ⟨r,0,none⟩):=hI.fact 0 136 rfl (QQa Ha 0 (by kernel_rfl))
  simp only[Array.getD_eq_getD_getElem?]at e0
  have Mn:=hword wx (hE.n1 hl)
  go_simp
  refine Mn.mono ?_
  rintro e w2 ⟨Y',Hp,rfl,gN⟩
  have Ka:=hS.trans Hp (fun _ _ e=>e)
  have u3:=(hI.2.2.1.2.no_far 6 hl (by kernel_rfl:QXd Q5e 6 3 1=true))
  have u5:=(hI.2.2.1.2.no_far 6 hl (by kernel_rfl:QXd Q5e 6 5 1=true))
  have hJ:=hI.other (F':=PgF r file tl tc Y' Z) (fun j hj u hF=>PgF.gh_Y hF (QHc hj hl) (QHc hj u3))
  refine hK' _ _ ⟨Y',Z,hJ.step QWq 1 137 rfl (by rw[gn];decide) _ _ gG Ha Ka (fun _ _ h=>PgF.world h) rfl,?_⟩
  constructor
  ·intro h;rw[Qlb (by omega)]at h;cases h
  ·intro _;exact gN
  ·exact hE.pos.keeps Hp G2
  ·rw[Qea (show 1≠4 by decide),Qea (show 1≠5 by decide)]
   intro a b
   obtain⟨q1,q2,q3⟩:=hE.n5 a b
   exact⟨q1.keeps Hp q3,q2,q3⟩
  ·rw[Qea (show 1≠5 by decide)];intro a;rw[u5]at a;cases a
 ·obtain⟨x0,x1,x2,_,_,_,xl⟩:=three hE.pos
  go_simp
  exact hK' _ _ ⟨Y,Z,hI.step QWq 2 138 rfl (by rw[gn];decide) _ _ gG Ha hS (fun _ _ h=>PgF.world h) rfl,hE.put (by decide) (by decide) (by decide)⟩
 ·have e1:c.tmps.getD 137 undef = .string Y:=hI.fact 1 137 rfl (QQa Ha 1 (by kernel_rfl))
  have e2:c.tmps.getD 138 undef = .agg #[.int .i64 file,.int .i64 tl,.int .i64 tc]:=hI.fact 2 138 rfl (QQa Ha 2 (by kernel_rfl))
  simp only[Array.getD_eq_getD_getElem?]at e1 e2
  go_simp
  exact hK' _ _ ⟨Y,Z,hI.step QWq 3 139 rfl (by rw[gn];decide) _ _ gG Ha hS (fun _ _ h=>PgF.world h) rfl,hE.put (by decide) (by decide) (by decide)⟩
 ·go_simp
  have Hp:Qaa (fun _=>False) wx (wx.alloc (.cells QQp 34)):=(Qaa.refl _ wx).alloc _
  have Ka:=hS.trans Hp (fun _ _ e=>e.elim)
  have u5:=(hI.2.2.1.2.no_far 6 hl (by kernel_rfl:QXd Q5e 6 5 4=true))
  have hJ:=hI.other (F':=PgF r file tl tc Y wx.heap.size) (fun j hj u hF=>PgF.gh_Z hF (QHc hj hl))
  have jW:r<wx.heap.size:=Nat.lt_of_lt_of_le h0.holds.lt hS.size
  refine hK' _ _ ⟨Y,wx.heap.size,hJ.step QWq 4 7 rfl (by rw[gn];decide) _ _ gG Ha Ka (fun _ _ h=>PgF.world h) rfl,?_⟩
  constructor
  ·rw[Qea (show 4≠1 by decide)];intro a;exact(hE.n1 a).keeps Hp
  ·rw[Qea (show 4≠1 by decide)];intro a;exact(hE.y1 a).keeps Hp
  ·exact hE.pos.keeps Hp (fun e=>e)
  ·intro _ _;exact⟨Qca.new _ _ _,hS.size,by omega⟩
  ·rw[Qea (show 4≠5 by decide)];intro a;rw[u5]at a;cases a
 ·have e3:c.tmps.getD 139 undef = .agg #[.int .i64 3,.string ⟨#[]⟩,.string Y,.slice none 0 0,.int .i64 file,.int .i64 tl,.int .i64 tc]:=hI.fact 3 139 rfl (QQa Ha 3 (by kernel_rfl))
  have e4:c.tmps.getD 7 undef = .pointer (some ⟨Z,0,none⟩):=hI.fact 4 7 rfl (QQa Ha 4 (by kernel_rfl))
  simp only[Array.getD_eq_getD_getElem?]at e3 e4
  obtain⟨q1,q2,q3⟩:=hE.n5 (QQa Ha 4 (by kernel_rfl)) hl
  have y1:l.getD 1 false=true:=(hI.2.2.1.2.yes_far 6 gG Ha (by decide) (by kernel_rfl))
  have hT:=hE.y1 y1
  unfold QQp at q1
  obtain⟨z0,z1,z2,z3,z4,z5,z6⟩:=Qna q1
  have g0:=q1.free 0
  have g1:=q1.free 1
  have g2:=q1.free 2
  have g3:=q1.free 3
  have g4:=q1.free 4
  have g5:=q1.free 5
  have g6:=q1.free 6
  have zl:=q1.lt
  go_simp
  have Hp:Qaa (· = Z) wx (((((((wx.setCell ⟨Z,0,none⟩ (.int .i64 3)).setCell ⟨Z,1,none⟩ (.string ⟨#[]⟩)).setCell ⟨Z,2,none⟩ (.string Y)).setCell ⟨Z,3,none⟩ (.slice none 0 0)).setCell ⟨Z,4,none⟩ (.int .i64 file)).setCell ⟨Z,5,none⟩ (.int .i64 tl)).setCell ⟨Z,6,none⟩ (.int .i64 tc)):=(((((((Qaa.refl (· = Z) wx).setCell (p:=⟨Z,0,none⟩) (.inr rfl) _).setCell (p:=⟨Z,1,none⟩) (.inr rfl) _).setCell (p:=⟨Z,2,none⟩) (.inr rfl) _).setCell (p:=⟨Z,3,none⟩) (.inr rfl) _).setCell (p:=⟨Z,4,none⟩) (.inr rfl) _).setCell (p:=⟨Z,5,none⟩) (.inr rfl) _).setCell (p:=⟨Z,6,none⟩) (.inr rfl) _
  have Ka:Qaa (· = r) W (((((((wx.setCell ⟨Z,0,none⟩ (.int .i64 3)).setCell ⟨Z,1,none⟩ (.string ⟨#[]⟩)).setCell ⟨Z,2,none⟩ (.string Y)).setCell ⟨Z,3,none⟩ (.slice none 0 0)).setCell ⟨Z,4,none⟩ (.int .i64 file)).setCell ⟨Z,5,none⟩ (.int .i64 tl)).setCell ⟨Z,6,none⟩ (.int .i64 tc)):=((((((hS.setCell (p:=⟨Z,0,none⟩) (.inl q2) _).setCell (p:=⟨Z,1,none⟩) (.inl q2) _).setCell (p:=⟨Z,2,none⟩) (.inl q2) _).setCell (p:=⟨Z,3,none⟩) (.inl q2) _).setCell (p:=⟨Z,4,none⟩) (.inl q2) _).setCell (p:=⟨Z,5,none⟩) (.inl q2) _).setCell (p:=⟨Z,6,none⟩) (.inl q2) _
  have Hg:=((((((q1.set 0 (.int .i64 3)).set 1 (.string ⟨#[]⟩)).set 2 (.string Y)).set 3 (.slice none 0 0)).set 4 (.int .i64 file)).set 5 (.int .i64 tl)).set 6 (.int .i64 tc)
  refine hK' _ _ ⟨Y,Z,hI.stepN 5 rfl _ gG Ha Ka (fun _ _ h=>PgF.world h) trivial,?_⟩
  constructor
  ·rw[Qea (show 5≠1 by decide)];intro a;rw[y1]at a;cases a
  ·intro _;exact hT.turn h0 GV Ka (fun hx=>hx.keeps Hp (fun e=>q3 e.symm))
  ·refine hE.pos.keeps Hp (fun e=>?_)
   have e2:P=Z:=e
   subst e2
   have:=hE.pos.symm.trans q1
   injection this with this;injection this with _ this;exact absurd this (by decide)
  ·intro _ a;rw[Qlb (by omega)]at a;cases a
  ·intro _;exact⟨Hg,q2,q3⟩
set_option maxRecDepth 100000 in
theorem Q3g(r base:Nat)(file:Int)(L:List Tok)(lv:Value)(w:World)(ov:Value)(i:Nat)(D:List Qwa)(h:Q4a w r base file L lv ov i D)(dp:Nat)(mF:dp≤50)(h5:(tkN L i).kind=5)(hl:Qra (tkN L i).text=false) :
 Calls Tryz.prog 109 #[.pointer (some ⟨r,0,none⟩),.int .i64 (dp:Int)] w (Q9b r base file L lv D (.error (i,1)) w):=by
 obtain⟨c0,c1,c2,c3,_,_,_,f1,f2,f3,_,_,_,cl⟩:=h.cells
 obtain⟨n1,n2⟩:=h.num
 have HH:=hid h
 have gU:=hid (h.ok.next h.lt (by rw[h5];decide))
 obtain⟨g,cap,rfl,hg,d0,d1,d2,d3,d4,d5⟩:=h.toks.at h.lt
 have gl:g<w.heap.size:=World.block_lt_of_cell? w _ d0
 rw[h5]at d0
 obtain⟨tl,H7⟩:∃t,t=(tkN L i).line:=⟨_,rfl⟩
 obtain⟨tc,Gb⟩:∃t,t=(tkN L i).col:=⟨_,rfl⟩
 rw[←H7]at d4
 rw[←Gb]at d5
 have KF:=hid H7
 have KE:=hid Gb
 clear H7 Gb
 have hN:=Qca.new w #[.int .i64 0,.int .i64 0,.int .i64 0] 27
 have Hl:Below w.heap.size w (w.alloc (.cells #[.int .i64 0,.int .i64 0,.int .i64 0] 27)):=(Below.refl _ _).alloc (Nat.le_refl _) _
 have c0':=(Hl.cell cl).trans c0
 have c1':=(Hl.cell cl).trans c1
 have d3':=(Hl.cell gl).trans d3
 have d4':=(Hl.cell gl).trans d4
 have d5':=(Hl.cell gl).trans d5
 obtain⟨m0,m1,m2,mf0,mf1,mf2,ml⟩:=three hN
 have hM:=(Qca.new w #[.int .i64 file,.int .i64 tl,.int .i64 tc] 27).drew
 have Hd:Qaa (fun _=>False) w (w.alloc (.cells #[.int .i64 file,.int .i64 tl,.int .i64 tc] 27)).drew:=((Qaa.refl _ w).alloc _).drew
 have h3:=h.keeps Hd
 obtain⟨x0,x1,x2,_,_,_,xl⟩:=three hM
 obtain⟨y0,y1,_,y3,_,_,_,z1,_,z3,_,_,_,yl⟩:=h3.cells
 have e0:=(Hd.cell (p:=⟨g,i*6,none⟩) gl (fun e=>e)).trans d0
 have gl3:=Nat.lt_of_lt_of_le gl Hd.size
 have H3:=hid h3
 have gh:=hid Hd
 have HM:=hid hM
 have mD:=hid (fun wx hx=>Qec wx r base file L (.slice (some ⟨g,0,none⟩) L.length cap) ov i D hx 5 (by decide))
 rw[show Qja L 5 (QKa 3) i = .error (i,1)from by unfold Qja;rw[if_pos h5];exact if_neg (by show ¬Qra _=true;rw[hl];exact Bool.false_ne_true)]at mD
 have bk:(dp:Int)≤50:=by omega
 have G2:w.heap.size≠r:=by omega
 have H9:=hid (show ∀b,b<base→¬b=r from fun b hb e=>by have:=h.low;omega)
 clear h h5 hl hN Hl hM Hd h3
 go_enter Tryz.func109,Tryz.ntmps109
 go_wp2_with fail
 go_region
 generalize (w.alloc (.cells #[.int .i64 file,.int .i64 tl,.int .i64 tc] 27)).drew=w3 at *
 clear c0 c1 c2 c3 d0 d1 d2 d3 d4 d5 c0' c1' d3' d4' d5' m0 m1 m2 mf0 mf1 mf2 ml gl cl f1 f2 f3
 go_wp2_with fail
 go_quiet (fail)
 go_wp2_with fail
 go_quiet (fail)
 go_wp2_with fail
 refine(by exact mD.out _ (by exact H3.out.keeps (Qda _ _)):Calls _ _ _ _ _).mono ?_
 rintro e w4 ⟨Hr,rfl,mQ⟩
 have Mg:=hid mQ
 have gQ:=hid (((gh.out.trans (Qda _ _) (fun _ _ e=>e)).mono (S:=(· = r)) (fun _ _ e=>e.elim)).trans Hr (fun _ _ e=>e))
 obtain⟨Km,lv',x',ov',hH⟩:=id mQ
 have b3:=hH.cell 3
 have bl:=hH.lt
 clear mQ Hr hH Km
 go_wp2_with fail
 refine bodyPost_ret (results_none rfl _ _ _) rfl ?_
 exact⟨rfl,gQ.out.below HH.out.size H9.out,Mg.out⟩
set_option maxRecDepth 100000 in
theorem Q2g(r base:Nat)(file:Int)(L:List Tok)(lv:Value)(w:World)(ov:Value)(i:Nat)(D:List Qwa)(h:Q4a w r base file L lv ov i D)(dp:Nat)(mF:dp≤50)(h5:(tkN L i).kind=5)(hl:Qra (tkN L i).text=true)(h1:(tkN L (i+1)).kind≠1) :
 Calls Tryz.prog 109 #[.pointer (some ⟨r,0,none⟩),.int .i64 (dp:Int)] w (Q9b r base file L lv D (.error (i+1,6)) w):=by
 obtain⟨c0,c1,c2,c3,_,_,_,f1,f2,f3,_,_,_,cl⟩:=h.cells
 obtain⟨n1,n2⟩:=h.num
 have HH:=hid h
 have gU:=hid (h.ok.next h.lt (by rw[h5];decide))
 obtain⟨g,cap,rfl,hg,d0,d1,d2,d3,d4,d5⟩:=h.toks.at h.lt
 have gl:g<w.heap.size:=World.block_lt_of_cell? w _ d0
 rw[h5]at d0
 obtain⟨tl,H7⟩:∃t,t=(tkN L i).line:=⟨_,rfl⟩
 obtain⟨tc,Gb⟩:∃t,t=(tkN L i).col:=⟨_,rfl⟩
 rw[←H7]at d4
 rw[←Gb]at d5
 have KF:=hid H7
 have KE:=hid Gb
 clear H7 Gb
 have hN:=Qca.new w #[.int .i64 0,.int .i64 0,.int .i64 0] 27
 have Hl:Below w.heap.size w (w.alloc (.cells #[.int .i64 0,.int .i64 0,.int .i64 0] 27)):=(Below.refl _ _).alloc (Nat.le_refl _) _
 have c0':=(Hl.cell cl).trans c0
 have c1':=(Hl.cell cl).trans c1
 have d3':=(Hl.cell gl).trans d3
 have d4':=(Hl.cell gl).trans d4
 have d5':=(Hl.cell gl).trans d5
 obtain⟨m0,m1,m2,mf0,mf1,mf2,ml⟩:=three hN
 have hM:=(Qca.new w #[.int .i64 file,.int .i64 tl,.int .i64 tc] 27).drew
 have Hd:Qaa (fun _=>False) w (w.alloc (.cells #[.int .i64 file,.int .i64 tl,.int .i64 tc] 27)).drew:=((Qaa.refl _ w).alloc _).drew
 have h3:=h.keeps Hd
 obtain⟨x0,x1,x2,_,_,_,xl⟩:=three hM
 obtain⟨y0,y1,_,y3,_,_,_,z1,_,z3,_,_,_,yl⟩:=h3.cells
 have e0:=(Hd.cell (p:=⟨g,i*6,none⟩) gl (fun e=>e)).trans d0
 have gl3:=Nat.lt_of_lt_of_le gl Hd.size
 have H3:=hid h3
 have gh:=hid Hd
 have HM:=hid hM
 have mD:=hid (fun wx hx=>Qec wx r base file L (.slice (some ⟨g,0,none⟩) L.length cap) ov i D hx 5 (by decide))
 rw[show Qja L 5 (QKa 3) i = .ok (i+1)from by unfold Qja;rw[if_pos h5];exact if_pos hl]at mD
 have bk:(dp:Int)≤50:=by omega
 have G2:w.heap.size≠r:=by omega
 have H9:=hid (show ∀b,b<base→¬b=r from fun b hb e=>by have:=h.low;omega)
 have HF:=hid (fun wx hx=>QNb wx r base file L (.slice (some ⟨g,0,none⟩) L.length cap) ov (i+1) D hx 6 (by decide))
 have kR:((tkN L (i+1)).kind != 1)=true:=by rw[bne_iff_ne];exact h1
 clear h h5 hl hN Hl hM Hd h3 h1
 go_enter Tryz.func109,Tryz.ntmps109
 go_wp2_with fail
 go_region
 generalize (w.alloc (.cells #[.int .i64 file,.int .i64 tl,.int .i64 tc] 27)).drew=w3 at *
 clear c0 c1 c2 c3 d0 d1 d2 d3 d4 d5 c0' c1' d3' d4' d5' m0 m1 m2 mf0 mf1 mf2 ml gl cl f1 f2 f3
 go_wp2_with fail
 go_quiet (fail)
 go_wp2_with fail
 go_quiet (fail)
 go_wp2_with fail
 refine(by exact mD.out _ (by exact H3.out.keeps (Qda _ _)):Calls _ _ _ _ _).mono ?_
 rintro e w4 ⟨Hr,rfl,JR⟩
 have Mf:=hid JR
 have Jl:=((Qda w3 _).mono (S:=(· = r)) (fun _ _ e=>e.elim)).trans Hr (fun _ _ e=>e)
 have K8:=hid (HM.out.keeps Jl G2)
 have gQ:=hid ((gh.out.mono (S:=(· = r)) (fun _ _ e=>e.elim)).trans Jl (fun _ _ e=>e))
 obtain⟨b0,b1,_,b3,_,_,_,_,_,_,_,_,_,bl⟩:=JR.cells
 obtain⟨g1,cap1,eg1,sY,k0,_⟩:=JR.toks.at JR.lt
 cases eg1
 have kl:g<w4.heap.size:=World.block_lt_of_cell? w4 _ k0
 obtain⟨n3,n4⟩:=JR.num
 generalize (tkN L (i+1)).kind=kd at *
 clear JR Hr Jl
 go_wp2_with fail
 go_quiet (fail)
 go_wp2_with fail
 refine(by exact HF.out _ (Mf.out.keeps (Qda _ _)):Calls _ _ _ _ _).mono ?_
 rintro e w6 ⟨rfl,Hj,Hz⟩
 have jY:=hid Hj
 have gH:=hid ((gQ.out.trans (Qda w4 _) (fun _ _ e=>e.elim)).trans Hz (fun _ _ e=>e))
 clear Hj Hz
 go_wp2_with fail
 refine bodyPost_ret (results_none rfl _ _ _) rfl ?_
 exact⟨rfl,gH.out.below HH.out.size H9.out,jY.out⟩
set_option maxRecDepth 100000 in
theorem Q1g(n:Nat)(r base:Nat)(file:Int)(L:List Tok)(lv:Value)(w:World)(ov:Value)(i:Nat)(D:List Qwa)(h:Q4a w r base file L lv ov i D)(dp:Nat)(mF:dp≤50)(h5:(tkN L i).kind=5)(hB:B4C r base file L lv n)(hl:Qra (tkN L i).text=true)(h1:(tkN L (i+1)).kind=1)(kF:D.length≤2*i)(hn:3*(L.length-i)≤n+1) :
 Calls Tryz.prog 109 #[.pointer (some ⟨r,0,none⟩),.int .i64 (dp:Int)] w (Q9b r base file L lv D (QDc L (Qfi (Qja L 1 Q1a (i+1)) (Qxb L n (.body ⟨1,txN L i,txN L (i+1),[],(tkN L i).line,(tkN L i).col⟩ (dp+1)) (i+1+1)))) w):=by
 obtain⟨c0,c1,c2,c3,_,_,_,f1,f2,f3,_,_,_,cl⟩:=h.cells
 obtain⟨n1,n2⟩:=h.num
 have HH:=hid h
 have gU:=hid (h.ok.next h.lt (by rw[h5];decide))
 obtain⟨g,cap,rfl,hg,d0,d1,d2,d3,d4,d5⟩:=h.toks.at h.lt
 have gl:g<w.heap.size:=World.block_lt_of_cell? w _ d0
 rw[h5]at d0
 obtain⟨tl,H7⟩:∃t,t=(tkN L i).line:=⟨_,rfl⟩
 obtain⟨tc,Gb⟩:∃t,t=(tkN L i).col:=⟨_,rfl⟩
 rw[←H7]at d4
 rw[←Gb]at d5
 have KF:=hid H7
 have KE:=hid Gb
 clear H7 Gb
 have hN:=Qca.new w #[.int .i64 0,.int .i64 0,.int .i64 0] 27
 have Hl:Below w.heap.size w (w.alloc (.cells #[.int .i64 0,.int .i64 0,.int .i64 0] 27)):=(Below.refl _ _).alloc (Nat.le_refl _) _
 have c0':=(Hl.cell cl).trans c0
 have c1':=(Hl.cell cl).trans c1
 have d3':=(Hl.cell gl).trans d3
 have d4':=(Hl.cell gl).trans d4
 have d5':=(Hl.cell gl).trans d5
 obtain⟨m0,m1,m2,mf0,mf1,mf2,ml⟩:=three hN
 have hM:=(Qca.new w #[.int .i64 file,.int .i64 tl,.int .i64 tc] 27).drew
 have Hd:Qaa (fun _=>False) w (w.alloc (.cells #[.int .i64 file,.int .i64 tl,.int .i64 tc] 27)).drew:=((Qaa.refl _ w).alloc _).drew
 have h3:=h.keeps Hd
 obtain⟨x0,x1,x2,_,_,_,xl⟩:=three hM
 obtain⟨y0,y1,_,y3,_,_,_,z1,_,z3,_,_,_,yl⟩:=h3.cells
 have e0:=(Hd.cell (p:=⟨g,i*6,none⟩) gl (fun e=>e)).trans d0
 have gl3:=Nat.lt_of_lt_of_le gl Hd.size
 have H3:=hid h3
 have gh:=hid Hd
 have HM:=hid hM
 have mD:=hid (fun wx hx=>Qec wx r base file L (.slice (some ⟨g,0,none⟩) L.length cap) ov i D hx 5 (by decide))
 rw[show Qja L 5 (QKa 3) i = .ok (i+1)from by unfold Qja;rw[if_pos h5];exact if_pos hl]at mD
 have bk:(dp:Int)≤50:=by omega
 have G2:w.heap.size≠r:=by omega
 have H9:=hid (show ∀b,b<base→¬b=r from fun b hb e=>by have:=h.low;omega)
 have cK:=hid (h.ok.next gU.out (by rw[h1];decide))
 have GK:=hid (fun wx hx=>Q5h wx r base file L (.slice (some ⟨g,0,none⟩) L.length cap) ov (i+1) D hx 1 (by decide))
 have oW:=hid (show((txN L i).toList == [])=false from by
  rw[beq_eq_false_iff_ne,ByteArray.toList_eq]
  intro e
  have e2:(tkN L i).text=[]:=by unfold txN at e;simpa using e
  rw[e2]at hl
  revert hl
  decide)
 obtain⟨LX,cq⟩:∃x,x=txN L i:=⟨_,rfl⟩
 unfold Qbb at mD
 rw[←cq]at mD oW
 rw[←cq]
 obtain⟨BR,MZ⟩:∃R,R=Qxb L n (.body ⟨1,LX,txN L (i+1),[],(tkN L i).line,(tkN L i).col⟩ (dp+1)) (i+1+1):=⟨_,rfl⟩
 have KY:Hid (∀wx ovx,Q4a wx r base file L (.slice (some ⟨g,0,none⟩) L.length cap) ovx (i+1+1) (D++[⟨1,LX,txN L (i+1),[],tl,tc⟩])→Calls Tryz.prog 66 #[.pointer (some ⟨r,0,none⟩),.int .i64 ((dp:Int)+1)] wx (Q9b r base file L (.slice (some ⟨g,0,none⟩) L.length cap) D BR wx)):=hid (fun wx ovx hx=>by
  have h9:=hB wx ovx (i+1+1) D ⟨1,LX,txN L (i+1),[],tl,tc⟩ (dp+1) hx (by omega) (by omega) (by omega)
  rw[show((dp+1:Nat):Int)=(dp:Int)+1 from by omega,KF.out,KE.out,←MZ]at h9
  exact h9)
 rw[←MZ]
 obtain⟨T,hT⟩:∃T,T=Qja L 1 (QKa 1) (i+1):=⟨_,rfl⟩
 rw[←hT]at GK
 have gN:Qja L 1 Q1a (i+1)=T:=hT.symm
 rw[gN]
 have jv:=hid (show ∀j,T = .ok j→j=i+1+1 from fun j e=>Qhc (by rw[←hT];exact e))
 have j5:=hid (show D.length≤2*(i+1)from by omega)
 clear h h5 hl hN Hl hM Hd h3 MZ hT gN cq hB kF
 go_enter Tryz.func109,Tryz.ntmps109
 go_wp2_with fail
 go_region
 generalize (w.alloc (.cells #[.int .i64 file,.int .i64 tl,.int .i64 tc] 27)).drew=w3 at *
 clear c0 c1 c2 c3 d0 d1 d2 d3 d4 d5 c0' c1' d3' d4' d5' m0 m1 m2 mf0 mf1 mf2 ml gl cl f1 f2 f3
 go_wp2_with fail
 go_quiet (fail)
 go_wp2_with fail
 go_quiet (fail)
 go_wp2_with fail
 refine(by exact mD.out _ (by exact H3.out.keeps (Qda _ _)):Calls _ _ _ _ _).mono ?_
 rintro e w4 ⟨Hr,rfl,JR⟩
 have Mf:=hid JR
 have Jl:=((Qda w3 _).mono (S:=(· = r)) (fun _ _ e=>e.elim)).trans Hr (fun _ _ e=>e)
 have K8:=hid (HM.out.keeps Jl G2)
 have gQ:=hid ((gh.out.mono (S:=(· = r)) (fun _ _ e=>e.elim)).trans Jl (fun _ _ e=>e))
 obtain⟨b0,b1,_,b3,_,_,_,_,_,_,_,_,_,bl⟩:=JR.cells
 obtain⟨g1,cap1,eg1,sY,k0,_⟩:=JR.toks.at JR.lt
 cases eg1
 have kl:g<w4.heap.size:=World.block_lt_of_cell? w4 _ k0
 obtain⟨n3,n4⟩:=JR.num
 rw[h1]at k0
 clear JR Hr Jl h1
 go_wp2_with fail
 go_quiet (fail)
 go_wp2_with fail
 generalize kH:World.drewN w4 _=w5
 have Hs:Qaa (fun _=>False) w4 w5:=by rw[←kH];exact Qda _ _
 have H5:=hid (Mf.out.keeps Hs)
 have MU:=hid (K8.out.keeps Hs (fun e=>e))
 have kb:=hid (gQ.out.trans Hs (fun _ _ e=>e.elim))
 obtain⟨g',cap',eg,hg',q0,q1,q2,q3,q4,q5⟩:=H5.out.toks.at cK.out
 cases eg
 obtain⟨kd,MJ⟩:∃x,x=(tkN L (i+1+1)).kind:=⟨_,rfl⟩
 obtain⟨tx,kU⟩:∃x,x=(tkN L (i+1+1)).text:=⟨_,rfl⟩
 rw[←MJ]at q0
 rw[←kU]at q1
 clear MJ kU
 have ql:g<w5.heap.size:=World.block_lt_of_cell? w5 _ q0
 obtain⟨b0,b1,_,b3,_,_,_,_,_,_,_,_,_,bl⟩:=H5.out.cells
 generalize (tkN L (i+1+1)).value=tv at *
 generalize (tkN L (i+1+1)).line=tl2 at *
 generalize (tkN L (i+1+1)).col=tc2 at *
 have M2:=Qca.new w5 #[.int .i64 0,.string ⟨#[]⟩,.int .i64 0,.int .i64 0,.int .i64 0,.int .i64 0] 65
 have Gk:Below w5.heap.size w5 (w5.alloc (.cells #[.int .i64 0,.string ⟨#[]⟩,.int .i64 0,.int .i64 0,.int .i64 0,.int .i64 0] 65)):=(Below.refl _ _).alloc (Nat.le_refl _) _
 have b0':=(Gk.cell bl).trans b0
 have b1':=(Gk.cell bl).trans b1
 have q0':=(Gk.cell ql).trans q0
 have q1':=(Gk.cell ql).trans q1
 have q2':=(Gk.cell ql).trans q2
 have q3':=(Gk.cell ql).trans q3
 have q4':=(Gk.cell ql).trans q4
 have q5':=(Gk.cell ql).trans q5
 obtain⟨g0,g1,g2,g3,g4,g5⟩:=QWb M2
 obtain⟨o0,o1,o2,o3,o4,o5⟩:=Qga M2
 have Hh:=M2.lt
 have Hz:Qaa (fun _=>False) w5 (w5.alloc (.cells #[.int .i64 kd,.string ⟨tx.toArray⟩,.int .i64 tv,.int .i64 file,.int .i64 tl2,.int .i64 tc2] 65)).drew:=((Qaa.refl _ w5).alloc _).drew
 have M1:=(Qca.new w5 #[.int .i64 kd,.string ⟨tx.toArray⟩,.int .i64 tv,.int .i64 file,.int .i64 tl2,.int .i64 tc2] 65).drew
 obtain⟨u0,u1,_,_,_,_⟩:=Qga M1
 have ul:=M1.lt
 have h6:=H5.out.keeps Hz
 have K2:=hid (MU.out.keeps Hz (fun e=>e))
 have gH:=hid (kb.out.trans Hz (fun _ _ e=>e.elim))
 obtain⟨s0,s1,_,s3,_,_,_,r1,_,_,_,_,_,sl⟩:=h6.cells
 have H6:=hid h6
 have rF:=hid M1
 have KX:IntKind.i64.wrap ((((i+1):Nat):Int)+1)=(((i+1):Nat):Int)+1:=IntWalk.i64_in _ (by omega)
 have Mp:(0:Int)≤(((i+1):Nat):Int)+1:=by omega
 have k8:(((i+1):Nat):Int)+1<(L.length:Int):=by have:=cK.out;omega
 have jd:((((i+1):Nat):Int)+1).toNat=(i+1)+1:=by omega
 clear M2 Gk Hz M1 h6 Hs
 go_region
 generalize (w5.alloc (.cells #[.int .i64 kd,.string ⟨tx.toArray⟩,.int .i64 tv,.int .i64 file,.int .i64 tl2,.int .i64 tc2] 65)).drew=w6 at *
 clear KX Mp k8 jd b0 b1 b3 bl b0' b1' q0 q1 q2 q3 q4 q5 q0' q1' q2' q3' q4' q5' g0 g1 g2 g3 g4 g5 o0 o1 o2 o3 o4 o5 Hh ql
 have hlne2:=oW.out
 go_upto_region 18 with fail
 obtain⟨p0,p1,p2,_,_,_,pl⟩:=three K2.out
 cases T with
 | ok j=>
  have Gr:=jv.out j rfl
  have Kf:=hid (fun wx ovx (hx:Q4a wx r base file L (.slice (some ⟨g,0,none⟩) L.length cap) ovx j D) (X:ByteArray)=>Qqb wx r base file L (.slice (some ⟨g,0,none⟩) L.length cap) ovx j D ⟨1,LX,X,[],tl,tc⟩ (.slice none 0 0) hx (Qha.none _ _) (by have:=j5.out;omega))
  go_region_with (first | (go_at_call 65;refine(by exact GK.out _ (by exact H6.out.keeps ((Qaa.refl _ _).drew)):Calls _ _ _ _ _).mono ?_;rintro e w7 ⟨Gs,rfl,jC⟩;have jm:=hid jC;have GY:=(((Qaa.refl (fun _=>False) w6).drew).mono (S:=(· = r)) (fun _ _ e=>e.elim)).trans Gs (fun _ _ e=>e);have jB:=K2.out.keeps GY G2;obtain⟨v0,v1,v2,_,_,_,vl⟩:=three jB;have MT:=hid (gH.out.trans GY (fun _ _ e=>e));clear jC Gs GY jB) | (go_at_call 64;refine(by exact Kf.out _ _ jm.out _:Calls _ _ _ _ _).mono ?_;rintro e w8 ⟨rfl,ov8,gY,G7⟩))
  all_goals
   have jp:=hid (KY.out w8 ov8 (by rw[Gr]at gY;exact gY))
   have GS:=hid (((MT.out.below HH.out.size H9.out)).trans G7)
   clear gY G7
   go_wp2_with fail
   refine(by exact jp.out:Calls _ _ _ _ _).mono ?_
   rintro e w9 ⟨rfl,GB,jb⟩
   have mA:=hid (GS.out.trans GB)
   clear GB
   cases BR with
   | ok q=>
    obtain⟨m,ds⟩:=q
    obtain⟨ov9,M4,JC⟩:=jb
    have gA:=hid (Qtb w9 r base file L _ ov9 m (D++ds) M4 [59] (by decide))
    have cB:=hid JC
    have cQ:=hid M4.size
    clear M4 JC
    go_wp2_with fail
    refine(by exact gA.out:Calls _ _ _ _ _).mono ?_
    rintro e w10 ⟨rfl,GC,t1,t2⟩
    have Kg:=hid (And.intro t1 t2)
    have mI:=hid (mA.out.trans (GC.below cQ.out H9.out))
    clear GC t1 t2
    go_wp2_with fail
    refine bodyPost_ret (results_none rfl _ _ _) rfl ?_
    refine⟨rfl,mI.out,?_⟩
    cases hg:isK L m 4 [59]with
    | true=>
     rw[show QDc L (Qfi (.ok j) (.ok (m,ds)))=_ from QJc hg]
     exact⟨ov9,Kg.out.1 hg,by have:=cB.out;omega⟩
    | false=>
     rw[show QDc L (Qfi (.ok j) (.ok (m,ds)))=_ from Qcc hg]
     exact Kg.out.2 hg
   | error q=>
    obtain⟨k,c⟩:=q
    have KB:=hid jb
    clear jb
    have GQ:=hid (Qqa w9 r file L k c KB.out ⟨#[59]⟩)
    go_wp2_with fail
    refine(by exact GQ.out:Calls _ _ _ _ _).mono ?_
    rintro e w10 ⟨rfl,rfl⟩
    go_wp2_with fail
    refine bodyPost_ret (results_none rfl _ _ _) rfl ?_
    exact⟨rfl,mA.out,KB.out⟩
 | error q=>
  obtain⟨k,c⟩:=q
  go_region_with (first | (go_at_call 65;refine(by exact GK.out _ (by exact H6.out.keeps ((Qaa.refl _ _).drew)):Calls _ _ _ _ _).mono ?_;rintro e w7 ⟨Gs,rfl,jC⟩;have jm:=hid jC;have GY:=(((Qaa.refl (fun _=>False) w6).drew).mono (S:=(· = r)) (fun _ _ e=>e.elim)).trans Gs (fun _ _ e=>e);have jB:=K2.out.keeps GY G2;obtain⟨v0,v1,v2,_,_,_,vl⟩:=three jB;have MT:=hid (gH.out.trans GY (fun _ _ e=>e));clear jC Gs GY jB) | (go_at_call 64;refine(by exact Q8a _ r file L k c jm.out _ _ _ _ _ _ _ _ _:Calls _ _ _ _ _).mono ?_;rintro e w8 ⟨rfl,gY,gE⟩))
  all_goals
   have K7:Hid (Calls Tryz.prog 66 #[.pointer (some ⟨r,0,none⟩),.int .i64 ((dp:Int)+1)] w8 (fun e w'=>e = .returned (.tuple #[])∧w8=w')):=hid (by
    have h9:=Qoc w8 r file L k c gY (dp+1) (by omega)
    rw[show((dp+1:Nat):Int)=(dp:Int)+1 from by omega]at h9
    exact h9)
   have GS:=hid ((MT.out.trans (gE.mono (S:=(· = r)) (fun _ _ e=>e.elim)) (fun _ _ e=>e)).below HH.out.size H9.out)
   have GG:=hid gY
   clear gY gE
   go_wp2_with fail
   refine(by exact K7.out:Calls _ _ _ _ _).mono ?_
   rintro e w9 ⟨rfl,rfl⟩
   have GQ:=hid (Qqa w8 r file L k c GG.out ⟨#[59]⟩)
   go_wp2_with fail
   refine(by exact GQ.out:Calls _ _ _ _ _).mono ?_
   rintro e w10 ⟨rfl,rfl⟩
   go_wp2_with fail
   refine bodyPost_ret (results_none rfl _ _ _) rfl ?_
   exact⟨rfl,GS.out,GG.out⟩
set_option maxRecDepth 100000 in
theorem QZj(w:World)(r base:Nat)(file:Int)(L:List Tok)(lv ov:Value)(i:Nat)(D:List Qwa)(h:Q4a w r base file L lv ov i D)(hk:(tkN L i).kind=7)(h1:isK L i 7 [105,110,99,108,117,100,101]=true)(kF:D.length≤2*i) :
 Calls Tryz.prog 34 #[.pointer (some ⟨r,0,none⟩)] w (Q9b r base file L lv D (QVd L 6 3 [] (fun _=>true) i) w):=by
 obtain⟨c0,c1,c2,c3,_,_,_,f1,f2,f3,_,_,_,cl⟩:=h.cells
 obtain⟨n1,n2⟩:=h.num
 have Hu:=fun wx hx=>QZb wx r base file L lv ov i D hx 7 [105,110,99,108,117,100,101] (by decide)
 have GK:=hid (fun wx hx=>QSk wx r base file L lv ov (i+1) D hx 3 (by decide))
 have gU:=hid (h.ok.next h.lt (by rw[hk];decide))
 rw[h1]at Hu
 have KC:=hid Hu
 have HF:=hid (fun wx hx=>QNb wx r base file L lv ov i D hx 6 (by decide))
 have HH:=hid h
 obtain⟨g,cap,rfl,hg,d0,d1,d2,d3,d4,d5⟩:=h.toks.at h.lt
 have gl:g<w.heap.size:=World.block_lt_of_cell? w _ d0
 rw[hk]at d0
 obtain⟨tl,H7⟩:∃t,t=(tkN L i).line:=⟨_,rfl⟩
 obtain⟨tc,Gb⟩:∃t,t=(tkN L i).col:=⟨_,rfl⟩
 rw[←H7]at d4
 rw[←Gb]at d5
 have KF:=hid H7
 have KE:=hid Gb
 clear H7 Gb
 have hN:=Qca.new w #[.int .i64 0,.int .i64 0,.int .i64 0] 27
 have Hl:Below w.heap.size w (w.alloc (.cells #[.int .i64 0,.int .i64 0,.int .i64 0] 27)):=(Below.refl _ _).alloc (Nat.le_refl _) _
 have c0':=(Hl.cell cl).trans c0
 have c1':=(Hl.cell cl).trans c1
 have d3':=(Hl.cell gl).trans d3
 have d4':=(Hl.cell gl).trans d4
 have d5':=(Hl.cell gl).trans d5
 obtain⟨m0,m1,m2,mf0,mf1,mf2,ml⟩:=three hN
 have hM:=(Qca.new w #[.int .i64 file,.int .i64 tl,.int .i64 tc] 27).drew
 have Hd:Qaa (fun _=>False) w (w.alloc (.cells #[.int .i64 file,.int .i64 tl,.int .i64 tc] 27)).drew:=((Qaa.refl _ w).alloc _).drew
 have h3:=h.keeps Hd
 obtain⟨x0,x1,x2,_,_,_,xl⟩:=three hM
 obtain⟨y0,y1,_,y3,_,_,_,z1,_,z3,_,_,_,yl⟩:=h3.cells
 have e0:=(Hd.cell (p:=⟨g,i*6,none⟩) gl (fun e=>e)).trans d0
 have gl3:=Nat.lt_of_lt_of_le gl Hd.size
 have H3:=hid h3
 have gh:=hid Hd
 have HM:=hid hM
 clear h hk h1 Hu hN Hl hM Hd h3
 go_enter Tryz.func34,Tryz.ntmps34
 go_wp2_with fail
 go_region
 generalize (w.alloc (.cells #[.int .i64 file,.int .i64 tl,.int .i64 tc] 27)).drew=w3 at *
 go_wp2_with fail
 refine(by exact KC.out _ H3.out:Calls _ _ _ _ _).mono ?_
 rintro e w4 ⟨rfl,Hr⟩
 have gQ:=hid Hr
 clear Hr
 have h4:=H3.out.keeps gQ.out
 have H4:=hid h4
 obtain⟨_,b1,_,b3,_,_,_,a1,_,_,_,_,_,bl⟩:=h4.cells
 have K8:=hid (HM.out.keeps gQ.out (fun e=>e))
 have je:=hid ((gh.out.trans gQ.out (fun _ _ e=>e)).mono (S:=(· = r)) (fun _ _ e=>e.elim))
 clear h4
 go_wp2_with fail
 obtain⟨gy,gB⟩:=H4.out.step gU.out
 have M0:=K8.out.keeps gB (by omega)
 obtain⟨p0,p1,p2,_,_,_,pl⟩:=three M0
 have H5:=hid gy
 have MU:=hid M0
 have aA:=hid (je.out.trans gB (fun _ _ e=>e))
 generalize w4.setCell ⟨r,1,none⟩ (.int .i64 ((i:Int)+1))=w5 at *
 clear gy gB M0 b1 b3 a1 bl
 obtain⟨T,hT⟩:∃T,T=Qja L 3 (QKa 4) (i+1):=⟨_,rfl⟩
 rw[←hT]at GK
 have MC:=hid hT
 clear hT
 cases T with
 | ok j=>
  have Kf:=hid (fun wx ovx (hx:Q4a wx r base file L (.slice (some ⟨g,0,none⟩) L.length cap) ovx j D) (X:ByteArray) (hj:i+1≤j)=>Qqb wx r base file L (.slice (some ⟨g,0,none⟩) L.length cap) ovx j D ⟨6,⟨#[]⟩,X,[],tl,tc⟩ (.slice none 0 0) hx (Qha.none _ _) (by omega))
  have Gr:j=i+2:=Qhc MC.out.symm
  have G2:w.heap.size≠r:=by omega
  go_region_with (first | (go_at_call 65;refine(by exact GK.out _ (by exact H5.out.keeps ((Qaa.refl _ _).drew)):Calls _ _ _ _ _).mono ?_;rintro e w6 ⟨Hz,rfl,kD⟩;have k9:=hid kD;have gO:=(((Qaa.refl (fun _=>False) w5).drew).mono (S:=(· = r)) (fun _ _ e=>e.elim)).trans Hz (fun _ _ e=>e);have me:=MU.out.keeps gO G2;obtain⟨q0,q1,q2,_,_,_,ql⟩:=three me;have gH:=hid (aA.out.trans gO (fun _ _ e=>e));clear kD Hz gO me) | (go_at_call 64;refine(by exact Kf.out _ _ k9.out _ (by omega):Calls _ _ _ _ _).mono ?_;rintro e w8 ⟨rfl,ov8,gY,G7⟩))
  all_goals
   have gA:=hid (Qtb w8 r base file L _ ov8 j _ gY [59] (by decide))
   have GS:=hid G7
   clear gY G7
   go_wp2_with fail
   refine(by exact gA.out:Calls _ _ _ _ _).mono ?_
   rintro e w9 ⟨rfl,G9,t1,t2⟩
   have Je:=hid (And.intro t1 t2)
   have Mr:=hid G9
   clear G9 t1 t2
   go_wp2_with fail
   refine bodyPost_ret (results_none rfl _ _ _) rfl ?_
   have gS:∀b,b<base→¬b=r:=fun b hb e=>by have:=HH.out.low;omega
   have gI:=((gH.out.below HH.out.size gS).trans GS.out).trans (Mr.out.below (Nat.le_trans HH.out.size (Nat.le_trans gH.out.size GS.out.size)) gS)
   refine⟨rfl,gI,?_⟩
   cases hg:isK L j 4 [59]with
   | true=>
    rw[show QVd L 6 3 [] (fun _=>true) i=_ from QIh MC.out.symm hg]
    refine⟨ov8,?_,by simp;omega⟩
    have h9:=Je.out.1 hg
    rw[KF.out,KE.out]at h9
    exact h9
   | false=>
    rw[show QVd L 6 3 [] (fun _=>true) i=_ from QVf MC.out.symm hg]
    exact Je.out.2 hg
 | error q=>
  obtain⟨k,c⟩:=q
  have G2:w.heap.size≠r:=by omega
  go_region_with (first | (go_at_call 65;refine(by exact GK.out _ (by exact H5.out.keeps ((Qaa.refl _ _).drew)):Calls _ _ _ _ _).mono ?_;rintro e w6 ⟨Hz,rfl,kD⟩;have k9:=hid kD;have gO:=(((Qaa.refl (fun _=>False) w5).drew).mono (S:=(· = r)) (fun _ _ e=>e.elim)).trans Hz (fun _ _ e=>e);have me:=MU.out.keeps gO G2;obtain⟨q0,q1,q2,_,_,_,ql⟩:=three me;have gH:=hid (aA.out.trans gO (fun _ _ e=>e));clear kD Hz gO me) | (go_at_call 64;refine(by exact Q8a _ r file L k c k9.out _ _ _ _ _ _ _ _ _:Calls _ _ _ _ _).mono ?_;rintro e w8 ⟨rfl,gY,gE⟩))
  all_goals
   have gA:=hid (Qqa w8 r file L k c gY ⟨#[59]⟩)
   have Kz:=hid (gH.out.trans (gE.mono (S:=(· = r)) (fun _ _ e=>e.elim)) (fun _ _ e=>e))
   have GG:=hid gY
   clear gY gE
   go_wp2_with fail
   refine(by exact gA.out:Calls _ _ _ _ _).mono ?_
   rintro e w9 ⟨rfl,rfl⟩
   go_wp2_with fail
   refine bodyPost_ret (results_none rfl _ _ _) rfl ?_
   refine⟨rfl,Kz.out.below HH.out.size (fun b hb e=>by have:=HH.out.low;omega),?_⟩
   rw[show QVd L 6 3 [] (fun _=>true) i=_ from QWf MC.out.symm]
   exact GG.out
set_option maxRecDepth 100000 in
theorem QYj(w:World)(r base:Nat)(file:Int)(L:List Tok)(lv ov:Value)(i:Nat)(D:List Qwa)(h:Q4a w r base file L lv ov i D)(hk:(tkN L i).kind=7)(h1:isK L i 7 [105,110,99,108,117,100,101]=false)(h2:isK L i 7 [100,101,108,101,116,101,45,110,111,100,101]=true)(kF:D.length≤2*i) :
 Calls Tryz.prog 34 #[.pointer (some ⟨r,0,none⟩)] w (Q9b r base file L lv D (QVd L 5 6 [38] Qra i) w):=by
 obtain⟨c0,c1,c2,c3,_,_,_,f1,f2,f3,_,_,_,cl⟩:=h.cells
 obtain⟨n1,n2⟩:=h.num
 have Hu:=fun wx hx=>QZb wx r base file L lv ov i D hx 7 [105,110,99,108,117,100,101] (by decide)
 have GK:=hid (fun wx hx=>Qec wx r base file L lv ov (i+1) D hx 6 (by decide))
 have i6:=Qta [38] (tkN L (i+1)).text (by have:=h.ok.at (i+1);simp;omega)
 have JM:=Qta [38] [] (by simp)
 unfold QSc at i6 JM
 unfold Qbb at GK
 obtain⟨XA,fG⟩:∃x:ByteArray,x=⟨([38]++(tkN L (i+1)).text).toArray⟩:=⟨_,rfl⟩
 obtain⟨X,hX⟩:∃x,x=txN L (i+1):=⟨_,rfl⟩
 rw[←fG]at i6
 rw[show(⟨((tkN L (i+1)).text).toArray⟩:ByteArray)=X from hX.symm]at i6
 rw[←hX]at GK
 have wS:=hid fG
 clear fG hX
 have gU:=hid (h.ok.next h.lt (by rw[hk];decide))
 have gz:=fun wx hx=>QZb wx r base file L lv ov i D hx 7 [100,101,108,101,116,101,45,110,111,100,101] (by decide)
 rw[h1]at Hu
 rw[h2]at gz
 have Mi:=hid gz
 have KC:=hid Hu
 have HF:=hid (fun wx hx=>QNb wx r base file L lv ov i D hx 6 (by decide))
 have HH:=hid h
 obtain⟨g,cap,rfl,hg,d0,d1,d2,d3,d4,d5⟩:=h.toks.at h.lt
 have gl:g<w.heap.size:=World.block_lt_of_cell? w _ d0
 rw[hk]at d0
 obtain⟨tl,H7⟩:∃t,t=(tkN L i).line:=⟨_,rfl⟩
 obtain⟨tc,Gb⟩:∃t,t=(tkN L i).col:=⟨_,rfl⟩
 rw[←H7]at d4
 rw[←Gb]at d5
 have KF:=hid H7
 have KE:=hid Gb
 clear H7 Gb
 have hN:=Qca.new w #[.int .i64 0,.int .i64 0,.int .i64 0] 27
 have Hl:Below w.heap.size w (w.alloc (.cells #[.int .i64 0,.int .i64 0,.int .i64 0] 27)):=(Below.refl _ _).alloc (Nat.le_refl _) _
 have c0':=(Hl.cell cl).trans c0
 have c1':=(Hl.cell cl).trans c1
 have d3':=(Hl.cell gl).trans d3
 have d4':=(Hl.cell gl).trans d4
 have d5':=(Hl.cell gl).trans d5
 obtain⟨m0,m1,m2,mf0,mf1,mf2,ml⟩:=three hN
 have hM:=(Qca.new w #[.int .i64 file,.int .i64 tl,.int .i64 tc] 27).drew
 have Hd:Qaa (fun _=>False) w (w.alloc (.cells #[.int .i64 file,.int .i64 tl,.int .i64 tc] 27)).drew:=((Qaa.refl _ w).alloc _).drew
 have h3:=h.keeps Hd
 obtain⟨x0,x1,x2,_,_,_,xl⟩:=three hM
 obtain⟨y0,y1,_,y3,_,_,_,z1,_,z3,_,_,_,yl⟩:=h3.cells
 have e0:=(Hd.cell (p:=⟨g,i*6,none⟩) gl (fun e=>e)).trans d0
 have gl3:=Nat.lt_of_lt_of_le gl Hd.size
 have H3:=hid h3
 have gh:=hid Hd
 have HM:=hid hM
 clear h hk h1 h2 Hu gz hN Hl hM Hd h3
 go_enter Tryz.func34,Tryz.ntmps34
 go_wp2_with fail
 go_region
 generalize (w.alloc (.cells #[.int .i64 file,.int .i64 tl,.int .i64 tc] 27)).drew=w3 at *
 go_wp2_with fail
 refine(by exact KC.out _ H3.out:Calls _ _ _ _ _).mono ?_
 rintro e w40 ⟨rfl,GX⟩
 have gC:=hid GX
 clear GX
 go_wp2_with fail
 refine(by exact Mi.out _ (H3.out.keeps gC.out):Calls _ _ _ _ _).mono ?_
 rintro e w4 ⟨rfl,Hr⟩
 have gQ:=hid (gC.out.trans Hr (fun _ _ e=>e))
 clear Hr
 have h4:=H3.out.keeps gQ.out
 have H4:=hid h4
 obtain⟨_,b1,_,b3,_,_,_,a1,_,_,_,_,_,bl⟩:=h4.cells
 have K8:=hid (HM.out.keeps gQ.out (fun e=>e))
 have je:=hid ((gh.out.trans gQ.out (fun _ _ e=>e)).mono (S:=(· = r)) (fun _ _ e=>e.elim))
 clear h4
 go_wp2_with fail
 obtain⟨gy,gB⟩:=H4.out.step gU.out
 have M0:=K8.out.keeps gB (by omega)
 obtain⟨p0,p1,p2,_,_,_,pl⟩:=three M0
 have H5:=hid gy
 have MU:=hid M0
 have aA:=hid (je.out.trans gB (fun _ _ e=>e))
 generalize w4.setCell ⟨r,1,none⟩ (.int .i64 ((i:Int)+1))=w5 at *
 clear gy gB M0 b1 b3 a1 bl
 obtain⟨T,hT⟩:∃T,T=Qja L 6 (QKa 3) (i+1):=⟨_,rfl⟩
 rw[←hT]at GK
 have MC:=hid hT
 clear hT
 cases T with
 | ok j=>
  have Kf:=hid (fun wx ovx (hx:Q4a wx r base file L (.slice (some ⟨g,0,none⟩) L.length cap) ovx j D) (hj:i+1≤j)=>Qqb wx r base file L (.slice (some ⟨g,0,none⟩) L.length cap) ovx j D ⟨5,⟨#[]⟩,XA,[],tl,tc⟩ (.slice none 0 0) hx (Qha.none _ _) (by omega))
  have Gr:j=i+2:=Qhc MC.out.symm
  have G2:w.heap.size≠r:=by omega
  go_region_with (first | (go_at_call 65;refine(by exact GK.out _ (by exact H5.out.keeps ((Qaa.refl _ _).drew)):Calls _ _ _ _ _).mono ?_;rintro e w6 ⟨Hz,rfl,kD⟩;have k9:=hid kD;have gO:=(((Qaa.refl (fun _=>False) w5).drew).mono (S:=(· = r)) (fun _ _ e=>e.elim)).trans Hz (fun _ _ e=>e);have me:=MU.out.keeps gO G2;obtain⟨q0,q1,q2,_,_,_,ql⟩:=three me;have gH:=hid (aA.out.trans gO (fun _ _ e=>e));clear kD Hz gO me) | (go_at_call 64;refine(by exact Kf.out _ _ k9.out (by omega):Calls _ _ _ _ _).mono ?_;rintro e w8 ⟨rfl,ov8,gY,G7⟩))
  all_goals
   have gA:=hid (Qtb w8 r base file L _ ov8 j _ gY [59] (by decide))
   have GS:=hid G7
   clear gY G7
   go_wp2_with fail
   refine(by exact gA.out:Calls _ _ _ _ _).mono ?_
   rintro e w9 ⟨rfl,G9,t1,t2⟩
   have Je:=hid (And.intro t1 t2)
   have Mr:=hid G9
   clear G9 t1 t2
   go_wp2_with fail
   refine bodyPost_ret (results_none rfl _ _ _) rfl ?_
   have gS:∀b,b<base→¬b=r:=fun b hb e=>by have:=HH.out.low;omega
   have gI:=((gH.out.below HH.out.size gS).trans GS.out).trans (Mr.out.below (Nat.le_trans HH.out.size (Nat.le_trans gH.out.size GS.out.size)) gS)
   refine⟨rfl,gI,?_⟩
   cases hg:isK L j 4 [59]with
   | true=>
    rw[show QVd L 5 6 [38] Qra i=_ from QIh MC.out.symm hg]
    refine⟨ov8,?_,by simp;omega⟩
    have h9:=Je.out.1 hg
    rw[KF.out,KE.out,wS.out]at h9
    exact h9
   | false=>
    rw[show QVd L 5 6 [38] Qra i=_ from QVf MC.out.symm hg]
    exact Je.out.2 hg
 | error q=>
  obtain⟨k,c⟩:=q
  have G2:w.heap.size≠r:=by omega
  go_region_with (first | (go_at_call 65;refine(by exact GK.out _ (by exact H5.out.keeps ((Qaa.refl _ _).drew)):Calls _ _ _ _ _).mono ?_;rintro e w6 ⟨Hz,rfl,kD⟩;have k9:=hid kD;have gO:=(((Qaa.refl (fun _=>False) w5).drew).mono (S:=(· = r)) (fun _ _ e=>e.elim)).trans Hz (fun _ _ e=>e);have me:=MU.out.keeps gO G2;obtain⟨q0,q1,q2,_,_,_,ql⟩:=three me;have gH:=hid (aA.out.trans gO (fun _ _ e=>e));clear kD Hz gO me) | (go_at_call 64;refine(by exact Q8a _ r file L k c k9.out _ _ _ _ _ _ _ _ _:Calls _ _ _ _ _).mono ?_;rintro e w8 ⟨rfl,gY,gE⟩))
  all_goals
   have gA:=hid (Qqa w8 r file L k c gY ⟨#[59]⟩)
   have Kz:=hid (gH.out.trans (gE.mono (S:=(· = r)) (fun _ _ e=>e.elim)) (fun _ _ e=>e))
   have GG:=hid gY
   clear gY gE
   go_wp2_with fail
   refine(by exact gA.out:Calls _ _ _ _ _).mono ?_
   rintro e w9 ⟨rfl,rfl⟩
   go_wp2_with fail
   refine bodyPost_ret (results_none rfl _ _ _) rfl ?_
   refine⟨rfl,Kz.out.below HH.out.size (fun b hb e=>by have:=HH.out.low;omega),?_⟩
   rw[show QVd L 5 6 [38] Qra i=_ from QWf MC.out.symm]
   exact GG.out
set_option maxRecDepth 100000 in
theorem Qul(r base:Nat)(file:Int)(L:List Tok)(lv:Value)(w:World)(ov:Value)(i:Nat)(D:List Qwa)(h:Q4a w r base file L lv ov i D)(hB:B4C r base file L lv (QEc L))(h6:(tkN L i).kind=6)(kF:D.length≤2*i) :
 Calls Tryz.prog 34 #[.pointer (some ⟨r,0,none⟩)] w (Q9b r base file L lv D (QDc L (Qfi (Qja L 6 Qra i) (Qxb L (QEc L) (.body ⟨1,⟨#[]⟩,⟨(38::(tkN L i).text).toArray⟩,[],(tkN L i).line,(tkN L i).col⟩ 0) (i+1)))) w):=by
 have h1:isK L i 7 [105,110,99,108,117,100,101]=false:=by unfold isK;rw[decide_eq_false (by rw[h6];decide)];rfl
 have h2:isK L i 7 [100,101,108,101,116,101,45,110,111,100,101]=false:=by unfold isK;rw[decide_eq_false (by rw[h6];decide)];rfl
 obtain⟨c0,c1,c2,c3,_,_,_,f1,f2,f3,_,_,_,cl⟩:=h.cells
 obtain⟨n1,n2⟩:=h.num
 have HH:=hid h
 have gU:=hid (h.ok.next h.lt (by rw[h6];decide))
 obtain⟨g,cap,rfl,hg,d0,d1,d2,d3,d4,d5⟩:=h.toks.at h.lt
 have gl:g<w.heap.size:=World.block_lt_of_cell? w _ d0
 rw[h6]at d0
 obtain⟨tl,H7⟩:∃t,t=(tkN L i).line:=⟨_,rfl⟩
 obtain⟨tc,Gb⟩:∃t,t=(tkN L i).col:=⟨_,rfl⟩
 rw[←H7]at d4
 rw[←Gb]at d5
 have KF:=hid H7
 have KE:=hid Gb
 clear H7 Gb
 have hN:=Qca.new w #[.int .i64 0,.int .i64 0,.int .i64 0] 27
 have Hl:Below w.heap.size w (w.alloc (.cells #[.int .i64 0,.int .i64 0,.int .i64 0] 27)):=(Below.refl _ _).alloc (Nat.le_refl _) _
 have c0':=(Hl.cell cl).trans c0
 have c1':=(Hl.cell cl).trans c1
 have d3':=(Hl.cell gl).trans d3
 have d4':=(Hl.cell gl).trans d4
 have d5':=(Hl.cell gl).trans d5
 obtain⟨m0,m1,m2,mf0,mf1,mf2,ml⟩:=three hN
 have hM:=(Qca.new w #[.int .i64 file,.int .i64 tl,.int .i64 tc] 27).drew
 have Hd:Qaa (fun _=>False) w (w.alloc (.cells #[.int .i64 file,.int .i64 tl,.int .i64 tc] 27)).drew:=((Qaa.refl _ w).alloc _).drew
 have h3:=h.keeps Hd
 obtain⟨x0,x1,x2,_,_,_,xl⟩:=three hM
 obtain⟨y0,y1,_,y3,_,_,_,z1,_,z3,_,_,_,yl⟩:=h3.cells
 have e0:=(Hd.cell (p:=⟨g,i*6,none⟩) gl (fun e=>e)).trans d0
 have gl3:=Nat.lt_of_lt_of_le gl Hd.size
 have H3:=hid h3
 have gh:=hid Hd
 have HM:=hid hM
 have Hu:=fun wx hx=>QZb wx r base file L (.slice (some ⟨g,0,none⟩) L.length cap) ov i D hx 7 [105,110,99,108,117,100,101] (by decide)
 have gz:=fun wx hx=>QZb wx r base file L (.slice (some ⟨g,0,none⟩) L.length cap) ov i D hx 7 [100,101,108,101,116,101,45,110,111,100,101] (by decide)
 rw[h1]at Hu
 rw[h2]at gz
 have KC:=hid Hu
 have Mi:=hid gz
 have G2:w.heap.size≠r:=by omega
 have H9:=hid (show ∀b,b<base→¬b=r from fun b hb e=>by have:=h.low;omega)
 have GK:=hid (fun wx hx=>Qec wx r base file L (.slice (some ⟨g,0,none⟩) L.length cap) ov i D hx 6 (by decide))
 have i6:=Qta [38] (tkN L i).text (by have:=h.ok.at i;simp;omega)
 have JM:=Qta [38] [] (by simp)
 unfold QSc at i6 JM
 unfold Qbb at GK
 obtain⟨XA,fG⟩:∃x:ByteArray,x=⟨(38::(tkN L i).text).toArray⟩:=⟨_,rfl⟩
 obtain⟨X,hX⟩:∃x,x=txN L i:=⟨_,rfl⟩
 have nV:(⟨([38]++(tkN L i).text).toArray⟩:ByteArray)=XA:=fG.symm
 have JB:(⟨((tkN L i).text).toArray⟩:ByteArray)=X:=hX.symm
 rw[nV,JB]at i6
 rw[←hX]at GK
 rw[←fG]
 obtain⟨BR,MZ⟩:∃R,R=Qxb L (QEc L) (.body ⟨1,⟨#[]⟩,XA,[],(tkN L i).line,(tkN L i).col⟩ 0) (i+1):=⟨_,rfl⟩
 have KY:Hid (∀wx ovx,Q4a wx r base file L (.slice (some ⟨g,0,none⟩) L.length cap) ovx (i+1) (D++[⟨1,⟨#[]⟩,XA,[],tl,tc⟩])→Calls Tryz.prog 66 #[.pointer (some ⟨r,0,none⟩),.int .i64 0] wx (Q9b r base file L (.slice (some ⟨g,0,none⟩) L.length cap) D BR wx)):=hid (fun wx ovx hx=>by
  have h9:=hB wx ovx (i+1) D ⟨1,⟨#[]⟩,XA,[],tl,tc⟩ 0 hx (by omega) (by unfold QEc;omega) (by omega)
  rw[show(((0:Nat):Int))=0 from rfl,KF.out,KE.out,←MZ]at h9
  exact h9)
 rw[←MZ]
 obtain⟨T,hT⟩:∃T,T=Qja L 6 (QKa 3) i:=⟨_,rfl⟩
 rw[←hT]at GK
 have gN:Qja L 6 Qra i=T:=hT.symm
 rw[gN]
 have jv:=hid (show ∀j,T = .ok j→j=i+1 from fun j e=>Qhc (by rw[←hT];exact e))
 have j5:=hid kF
 clear h h1 h2 Hu gz hN Hl hM Hd h3 MZ hT gN hX fG nV JB hB kF h6
 go_enter Tryz.func34,Tryz.ntmps34
 go_wp2_with fail
 go_region
 generalize (w.alloc (.cells #[.int .i64 file,.int .i64 tl,.int .i64 tc] 27)).drew=w3 at *
 clear c0 c1 c2 c3 d0 d1 d2 d3 d4 d5 c0' c1' d3' d4' d5' m0 m1 m2 mf0 mf1 mf2 ml gl cl f1 f2 f3
 go_wp2_with fail
 refine(by exact KC.out _ H3.out:Calls _ _ _ _ _).mono ?_
 rintro e w40 ⟨rfl,GX⟩
 have gC:=hid GX
 clear GX
 go_wp2_with fail
 refine(by exact Mi.out _ (H3.out.keeps gC.out):Calls _ _ _ _ _).mono ?_
 rintro e w4 ⟨rfl,Hr⟩
 have gQ:=hid (gh.out.trans (gC.out.trans Hr (fun _ _ e=>e)) (fun _ _ e=>e))
 have K8:=hid (HM.out.keeps (gC.out.trans Hr (fun _ _ e=>e)) (fun e=>e))
 have h4:=HH.out.keeps gQ.out
 obtain⟨b0,b1,_,b3,_,_,_,_,_,_,_,_,_,bl⟩:=h4.cells
 have e4:=((gC.out.trans Hr (fun _ _ e=>e)).cell (p:=⟨g,i*6,none⟩) gl3 (fun e=>e)).trans e0
 have gl4:=Nat.lt_of_lt_of_le gl3 (gC.out.trans Hr (fun _ _ e=>e)).size
 have H4:=hid h4
 clear Hr h4 e0 gl3 x0 x1 x2 xl y0 y1 y3 z1 z3 yl
 go_wp2_with fail
 go_quiet (fail)
 go_wp2_with fail
 generalize hw6:World.drewN w4 _=w6
 have Hz:Qaa (fun _=>False) w4 w6:=by rw[←hw6];exact Qda _ _
 have H6:=hid (H4.out.keeps Hz)
 have gH:=hid ((gQ.out.trans Hz (fun _ _ e=>e)).mono (S:=(· = r)) (fun _ _ e=>e.elim))
 have K2:=hid (K8.out.keeps Hz (fun e=>e))
 clear Hz hw6
 obtain⟨p0,p1,p2,_,_,_,pl⟩:=three K2.out
 cases T with
 | ok j=>
  have Gr:=jv.out j rfl
  have Kf:=hid (fun wx ovx (hx:Q4a wx r base file L (.slice (some ⟨g,0,none⟩) L.length cap) ovx j D)=>Qqb wx r base file L (.slice (some ⟨g,0,none⟩) L.length cap) ovx j D ⟨1,⟨#[]⟩,XA,[],tl,tc⟩ (.slice none 0 0) hx (Qha.none _ _) (by have:=j5.out;omega))
  go_region_with (first | (go_at_call 65;refine(by exact GK.out _ (by exact H6.out.keeps ((Qaa.refl _ _).drew)):Calls _ _ _ _ _).mono ?_;rintro e w7 ⟨Gs,rfl,jC⟩;have jm:=hid jC;have GY:=(((Qaa.refl (fun _=>False) w6).drew).mono (S:=(· = r)) (fun _ _ e=>e.elim)).trans Gs (fun _ _ e=>e);have jB:=K2.out.keeps GY G2;obtain⟨v0,v1,v2,_,_,_,vl⟩:=three jB;have MT:=hid (gH.out.trans GY (fun _ _ e=>e));clear jC Gs GY jB) | (go_at_call 64;refine(by exact Kf.out _ _ jm.out:Calls _ _ _ _ _).mono ?_;rintro e w8 ⟨rfl,ov8,gY,G7⟩))
  all_goals
   have jp:=hid (KY.out w8 ov8 (by rw[Gr]at gY;exact gY))
   have GS:=hid (((MT.out.below HH.out.size H9.out)).trans G7)
   clear gY G7
   go_wp2_with fail
   refine(by exact jp.out:Calls _ _ _ _ _).mono ?_
   rintro e w9 ⟨rfl,GB,jb⟩
   have mA:=hid (GS.out.trans GB)
   clear GB
   cases BR with
   | ok q=>
    obtain⟨m,ds⟩:=q
    obtain⟨ov9,M4,JC⟩:=jb
    have gA:=hid (Qtb w9 r base file L _ ov9 m (D++ds) M4 [59] (by decide))
    have cB:=hid JC
    have cQ:=hid M4.size
    clear M4 JC
    go_wp2_with fail
    refine(by exact gA.out:Calls _ _ _ _ _).mono ?_
    rintro e w10 ⟨rfl,GC,t1,t2⟩
    have Kg:=hid (And.intro t1 t2)
    have mI:=hid (mA.out.trans (GC.below cQ.out H9.out))
    clear GC t1 t2
    go_wp2_with fail
    refine bodyPost_ret (results_none rfl _ _ _) rfl ?_
    refine⟨rfl,mI.out,?_⟩
    cases hg:isK L m 4 [59]with
    | true=>
     rw[show QDc L (Qfi (.ok j) (.ok (m,ds)))=_ from QJc hg]
     exact⟨ov9,Kg.out.1 hg,by have:=cB.out;omega⟩
    | false=>
     rw[show QDc L (Qfi (.ok j) (.ok (m,ds)))=_ from Qcc hg]
     exact Kg.out.2 hg
   | error q=>
    obtain⟨k,c⟩:=q
    have KB:=hid jb
    clear jb
    have GQ:=hid (Qqa w9 r file L k c KB.out ⟨#[59]⟩)
    go_wp2_with fail
    refine(by exact GQ.out:Calls _ _ _ _ _).mono ?_
    rintro e w10 ⟨rfl,rfl⟩
    go_wp2_with fail
    refine bodyPost_ret (results_none rfl _ _ _) rfl ?_
    exact⟨rfl,mA.out,KB.out⟩
 | error q=>
  obtain⟨k,c⟩:=q
  go_region_with (first | (go_at_call 65;refine(by exact GK.out _ (by exact H6.out.keeps ((Qaa.refl _ _).drew)):Calls _ _ _ _ _).mono ?_;rintro e w7 ⟨Gs,rfl,jC⟩;have jm:=hid jC;have GY:=(((Qaa.refl (fun _=>False) w6).drew).mono (S:=(· = r)) (fun _ _ e=>e.elim)).trans Gs (fun _ _ e=>e);have jB:=K2.out.keeps GY G2;obtain⟨v0,v1,v2,_,_,_,vl⟩:=three jB;have MT:=hid (gH.out.trans GY (fun _ _ e=>e));clear jC Gs GY jB) | (go_at_call 64;refine(by exact Q8a _ r file L k c jm.out _ _ _ _ _ _ _ _ _:Calls _ _ _ _ _).mono ?_;rintro e w8 ⟨rfl,gY,gE⟩))
  all_goals
   have K7:Hid (Calls Tryz.prog 66 #[.pointer (some ⟨r,0,none⟩),.int .i64 0] w8 (fun e w'=>e = .returned (.tuple #[])∧w8=w')):=hid (by
    have h9:=Qoc w8 r file L k c gY 0 (by decide)
    rw[show(((0:Nat):Int))=0 from rfl]at h9
    exact h9)
   have GS:=hid ((MT.out.trans (gE.mono (S:=(· = r)) (fun _ _ e=>e.elim)) (fun _ _ e=>e)).below HH.out.size H9.out)
   have GG:=hid gY
   clear gY gE
   go_wp2_with fail
   refine(by exact K7.out:Calls _ _ _ _ _).mono ?_
   rintro e w9 ⟨rfl,rfl⟩
   have GQ:=hid (Qqa w8 r file L k c GG.out ⟨#[59]⟩)
   go_wp2_with fail
   refine(by exact GQ.out:Calls _ _ _ _ _).mono ?_
   rintro e w10 ⟨rfl,rfl⟩
   go_wp2_with fail
   refine bodyPost_ret (results_none rfl _ _ _) rfl ?_
   exact⟨rfl,GS.out,GG.out⟩
set_option maxRecDepth 100000 in
theorem Q3i(r base:Nat)(file:Int)(L:List Tok)(lv:Value)(w:World)(ov:Value)(i:Nat)(D:List Qwa)(h:Q4a w r base file L lv ov i D)(hB:B4C r base file L lv (QEc L))(h1:isK L i 7 [105,110,99,108,117,100,101]=false)(h2:isK L i 7 [100,101,108,101,116,101,45,110,111,100,101]=false)(k5:(tkN L i).kind≠5)(k6:(tkN L i).kind≠6)(hs:isK L i 4 [47]=true)(kF:D.length≤2*i) :
 Calls Tryz.prog 34 #[.pointer (some ⟨r,0,none⟩)] w (Q9b r base file L lv D (QDc L (Qxb L (QEc L) (.body ⟨1,⟨#[]⟩,⟨#[47]⟩,[],(tkN L i).line,(tkN L i).col⟩ 0) (i+1))) w):=by
 obtain⟨c0,c1,c2,c3,_,_,_,f1,f2,f3,_,_,_,cl⟩:=h.cells
 obtain⟨n1,n2⟩:=h.num
 have HH:=hid h
 obtain⟨g,cap,rfl,hg,d0,d1,d2,d3,d4,d5⟩:=h.toks.at h.lt
 have gl:g<w.heap.size:=World.block_lt_of_cell? w _ d0
 obtain⟨kd,MJ⟩:∃x,x=(tkN L i).kind:=⟨_,rfl⟩
 rw[←MJ]at d0 k5 k6
 obtain⟨tl,H7⟩:∃t,t=(tkN L i).line:=⟨_,rfl⟩
 obtain⟨tc,Gb⟩:∃t,t=(tkN L i).col:=⟨_,rfl⟩
 rw[←H7]at d4
 rw[←Gb]at d5
 have KF:=hid H7
 have KE:=hid Gb
 clear H7 Gb
 have hN:=Qca.new w #[.int .i64 0,.int .i64 0,.int .i64 0] 27
 have Hl:Below w.heap.size w (w.alloc (.cells #[.int .i64 0,.int .i64 0,.int .i64 0] 27)):=(Below.refl _ _).alloc (Nat.le_refl _) _
 have c0':=(Hl.cell cl).trans c0
 have c1':=(Hl.cell cl).trans c1
 have d3':=(Hl.cell gl).trans d3
 have d4':=(Hl.cell gl).trans d4
 have d5':=(Hl.cell gl).trans d5
 obtain⟨m0,m1,m2,mf0,mf1,mf2,ml⟩:=three hN
 have hM:=(Qca.new w #[.int .i64 file,.int .i64 tl,.int .i64 tc] 27).drew
 have Hd:Qaa (fun _=>False) w (w.alloc (.cells #[.int .i64 file,.int .i64 tl,.int .i64 tc] 27)).drew:=((Qaa.refl _ w).alloc _).drew
 have h3:=h.keeps Hd
 obtain⟨x0,x1,x2,_,_,_,xl⟩:=three hM
 obtain⟨y0,y1,_,y3,_,_,_,z1,_,z3,_,_,_,yl⟩:=h3.cells
 have e0:=(Hd.cell (p:=⟨g,i*6,none⟩) gl (fun e=>e)).trans d0
 have gl3:=Nat.lt_of_lt_of_le gl Hd.size
 have H3:=hid h3
 have gh:=hid Hd
 have HM:=hid hM
 have Hu:=fun wx hx=>QZb wx r base file L (.slice (some ⟨g,0,none⟩) L.length cap) ov i D hx 7 [105,110,99,108,117,100,101] (by decide)
 have gz:=fun wx hx=>QZb wx r base file L (.slice (some ⟨g,0,none⟩) L.length cap) ov i D hx 7 [100,101,108,101,116,101,45,110,111,100,101] (by decide)
 rw[h1]at Hu
 rw[h2]at gz
 have KC:=hid Hu
 have Mi:=hid gz
 have G2:w.heap.size≠r:=by omega
 have H9:=hid (show ∀b,b<base→¬b=r from fun b hb e=>by have:=h.low;omega)
 obtain⟨BR,MZ⟩:∃R,R=Qxb L (QEc L) (.body ⟨1,⟨#[]⟩,⟨#[47]⟩,[],(tkN L i).line,(tkN L i).col⟩ 0) (i+1):=⟨_,rfl⟩
 have KY:Hid (∀wx ovx,Q4a wx r base file L (.slice (some ⟨g,0,none⟩) L.length cap) ovx (i+1) (D++[⟨1,⟨#[]⟩,⟨#[47]⟩,[],tl,tc⟩])→Calls Tryz.prog 66 #[.pointer (some ⟨r,0,none⟩),.int .i64 0] wx (Q9b r base file L (.slice (some ⟨g,0,none⟩) L.length cap) D BR wx)):=hid (fun wx ovx hx=>by
  have h9:=hB wx ovx (i+1) D ⟨1,⟨#[]⟩,⟨#[47]⟩,[],tl,tc⟩ 0 hx (by omega) (by unfold QEc;omega) (by omega)
  rw[show(((0:Nat):Int))=0 from rfl,KF.out,KE.out,←MZ]at h9
  exact h9)
 rw[←MZ]
 have j5:=hid kF
 have kA:=hid hs
 have q6:(kd == 6)=false:=by rw[beq_eq_false_iff_ne];exact k6
 have q5:(kd == 5)=false:=by rw[beq_eq_false_iff_ne];exact k5
 clear h h1 h2 Hu gz hN Hl hM Hd h3 MZ hB kF hs MJ k5 k6
 go_enter Tryz.func34,Tryz.ntmps34
 go_wp2_with fail
 go_region
 generalize (w.alloc (.cells #[.int .i64 file,.int .i64 tl,.int .i64 tc] 27)).drew=w3 at *
 clear c0 c1 c2 c3 d0 d1 d2 d3 d4 d5 c0' c1' d3' d4' d5' m0 m1 m2 mf0 mf1 mf2 ml gl cl f1 f2 f3
 go_wp2_with fail
 refine(by exact KC.out _ H3.out:Calls _ _ _ _ _).mono ?_
 rintro e w40 ⟨rfl,GX⟩
 have gC:=hid GX
 clear GX
 go_wp2_with fail
 refine(by exact Mi.out _ (H3.out.keeps gC.out):Calls _ _ _ _ _).mono ?_
 rintro e w4 ⟨rfl,Hr⟩
 have gQ:=hid (gh.out.trans (gC.out.trans Hr (fun _ _ e=>e)) (fun _ _ e=>e))
 have K8:=hid (HM.out.keeps (gC.out.trans Hr (fun _ _ e=>e)) (fun e=>e))
 have h4:=HH.out.keeps gQ.out
 obtain⟨b0,b1,_,b3,_,_,_,_,_,_,_,_,_,bl⟩:=h4.cells
 have e4:=((gC.out.trans Hr (fun _ _ e=>e)).cell (p:=⟨g,i*6,none⟩) gl3 (fun e=>e)).trans e0
 have gl4:=Nat.lt_of_lt_of_le gl3 (gC.out.trans Hr (fun _ _ e=>e)).size
 have H4:=hid h4
 clear Hr h4 e0 gl3 x0 x1 x2 xl y0 y1 y3 z1 z3 yl
 go_wp2_with fail
 go_quiet (fail)
 go_wp2_with fail
 go_quiet (fail)
 go_wp2_with fail
 generalize hw6:World.drewN w4 _=w6
 have Hz:Qaa (fun _=>False) w4 w6:=by rw[←hw6];exact Qda _ _
 have H6:=hid (H4.out.keeps Hz)
 have gH:=hid ((gQ.out.trans Hz (fun _ _ e=>e)).mono (S:=(· = r)) (fun _ _ e=>e.elim))
 have K2:=hid (K8.out.keeps Hz (fun e=>e))
 clear Hz hw6
 have eX:=hid (Qtb w6 r base file L (.slice (some ⟨g,0,none⟩) L.length cap) ov (i) D H6.out [47] (by decide))
 refine(by exact eX.out:Calls _ _ _ _ _).mono ?_
 rintro e w7 ⟨rfl,Gs,t1,_⟩
 have jm:=hid (t1 kA.out)
 have eJ:=hid (K2.out.keeps Gs G2)
 have MT:=hid (gH.out.trans Gs (fun _ _ e=>e))
 obtain⟨v0,v1,v2,_,_,_,vl⟩:=three eJ.out
 have Kf:=hid (Qqb w7 r base file L (.slice (some ⟨g,0,none⟩) L.length cap) ov (i+1) D ⟨1,⟨#[]⟩,⟨#[47]⟩,[],tl,tc⟩ (.slice none 0 0) jm.out (Qha.none _ _) (by have:=j5.out;omega))
 clear Gs t1
 go_wp2_with fail
 refine(by exact Kf.out:Calls _ _ _ _ _).mono ?_
 rintro e w8 ⟨rfl,ov8,gY,G7⟩
 have jp:=hid (KY.out w8 ov8 gY)
 have GS:=hid ((MT.out.below HH.out.size H9.out).trans G7)
 clear gY G7
 go_wp2_with fail
 refine(by exact jp.out:Calls _ _ _ _ _).mono ?_
 rintro e w9 ⟨rfl,GB,jb⟩
 have mA:=hid (GS.out.trans GB)
 clear GB
 cases BR with
 | ok q=>
  obtain⟨m,ds⟩:=q
  obtain⟨ov9,M4,JC⟩:=jb
  have gA:=hid (Qtb w9 r base file L _ ov9 m (D++ds) M4 [59] (by decide))
  have cB:=hid JC
  have cQ:=hid M4.size
  clear M4 JC
  go_wp2_with fail
  refine(by exact gA.out:Calls _ _ _ _ _).mono ?_
  rintro e w10 ⟨rfl,GC,t1,t2⟩
  have Kg:=hid (And.intro t1 t2)
  have mI:=hid (mA.out.trans (GC.below cQ.out H9.out))
  clear GC t1 t2
  go_wp2_with fail
  refine bodyPost_ret (results_none rfl _ _ _) rfl ?_
  refine⟨rfl,mI.out,?_⟩
  cases hg:isK L m 4 [59]with
  | true=>
   rw[QJc hg]
   exact⟨ov9,Kg.out.1 hg,by have:=cB.out;omega⟩
  | false=>
   rw[Qcc hg]
   exact Kg.out.2 hg
 | error q=>
  obtain⟨k,c⟩:=q
  have KB:=hid jb
  clear jb
  have GQ:=hid (Qqa w9 r file L k c KB.out ⟨#[59]⟩)
  go_wp2_with fail
  refine(by exact GQ.out:Calls _ _ _ _ _).mono ?_
  rintro e w10 ⟨rfl,rfl⟩
  go_wp2_with fail
  refine bodyPost_ret (results_none rfl _ _ _) rfl ?_
  exact⟨rfl,mA.out,KB.out⟩
set_option maxRecDepth 100000 in
theorem Q2j(r base:Nat)(file:Int)(L:List Tok)(lv:Value)(w:World)(ov:Value)(i:Nat)(D:List Qwa)(h:Q4a w r base file L lv ov i D)(h1:isK L i 7 [105,110,99,108,117,100,101]=false)(h2:isK L i 7 [100,101,108,101,116,101,45,110,111,100,101]=false)(k5:(tkN L i).kind≠5)(k6:(tkN L i).kind≠6)(hs:isK L i 4 [47]=false) :
 Calls Tryz.prog 34 #[.pointer (some ⟨r,0,none⟩)] w (Q9b r base file L lv D (.error (i,6)) w):=by
 obtain⟨c0,c1,c2,c3,_,_,_,f1,f2,f3,_,_,_,cl⟩:=h.cells
 obtain⟨n1,n2⟩:=h.num
 have HH:=hid h
 obtain⟨g,cap,rfl,hg,d0,d1,d2,d3,d4,d5⟩:=h.toks.at h.lt
 have gl:g<w.heap.size:=World.block_lt_of_cell? w _ d0
 obtain⟨kd,MJ⟩:∃x,x=(tkN L i).kind:=⟨_,rfl⟩
 rw[←MJ]at d0 k5 k6
 obtain⟨tl,H7⟩:∃t,t=(tkN L i).line:=⟨_,rfl⟩
 obtain⟨tc,Gb⟩:∃t,t=(tkN L i).col:=⟨_,rfl⟩
 rw[←H7]at d4
 rw[←Gb]at d5
 have KF:=hid H7
 have KE:=hid Gb
 clear H7 Gb
 have hN:=Qca.new w #[.int .i64 0,.int .i64 0,.int .i64 0] 27
 have Hl:Below w.heap.size w (w.alloc (.cells #[.int .i64 0,.int .i64 0,.int .i64 0] 27)):=(Below.refl _ _).alloc (Nat.le_refl _) _
 have c0':=(Hl.cell cl).trans c0
 have c1':=(Hl.cell cl).trans c1
 have d3':=(Hl.cell gl).trans d3
 have d4':=(Hl.cell gl).trans d4
 have d5':=(Hl.cell gl).trans d5
 obtain⟨m0,m1,m2,mf0,mf1,mf2,ml⟩:=three hN
 have hM:=(Qca.new w #[.int .i64 file,.int .i64 tl,.int .i64 tc] 27).drew
 have Hd:Qaa (fun _=>False) w (w.alloc (.cells #[.int .i64 file,.int .i64 tl,.int .i64 tc] 27)).drew:=((Qaa.refl _ w).alloc _).drew
 have h3:=h.keeps Hd
 obtain⟨x0,x1,x2,_,_,_,xl⟩:=three hM
 obtain⟨y0,y1,_,y3,_,_,_,z1,_,z3,_,_,_,yl⟩:=h3.cells
 have e0:=(Hd.cell (p:=⟨g,i*6,none⟩) gl (fun e=>e)).trans d0
 have gl3:=Nat.lt_of_lt_of_le gl Hd.size
 have H3:=hid h3
 have gh:=hid Hd
 have HM:=hid hM
 have Hu:=fun wx hx=>QZb wx r base file L (.slice (some ⟨g,0,none⟩) L.length cap) ov i D hx 7 [105,110,99,108,117,100,101] (by decide)
 have gz:=fun wx hx=>QZb wx r base file L (.slice (some ⟨g,0,none⟩) L.length cap) ov i D hx 7 [100,101,108,101,116,101,45,110,111,100,101] (by decide)
 rw[h1]at Hu
 rw[h2]at gz
 have KC:=hid Hu
 have Mi:=hid gz
 have G2:w.heap.size≠r:=by omega
 have H9:=hid (show ∀b,b<base→¬b=r from fun b hb e=>by have:=h.low;omega)
 obtain⟨k,c,bG⟩:∃(k:Nat) (c:Int),(k,c)=(i,(6:Int)):=⟨_,_,rfl⟩
 rw[←bG]
 have lR:=hid bG
 have kA:=hid hs
 have q6:(kd == 6)=false:=by rw[beq_eq_false_iff_ne];exact k6
 have q5:(kd == 5)=false:=by rw[beq_eq_false_iff_ne];exact k5
 clear h h1 h2 Hu gz hN Hl hM Hd h3 hs MJ k5 k6 bG
 go_enter Tryz.func34,Tryz.ntmps34
 go_wp2_with fail
 go_region
 generalize (w.alloc (.cells #[.int .i64 file,.int .i64 tl,.int .i64 tc] 27)).drew=w3 at *
 clear c0 c1 c2 c3 d0 d1 d2 d3 d4 d5 c0' c1' d3' d4' d5' m0 m1 m2 mf0 mf1 mf2 ml gl cl f1 f2 f3
 go_wp2_with fail
 refine(by exact KC.out _ H3.out:Calls _ _ _ _ _).mono ?_
 rintro e w40 ⟨rfl,GX⟩
 have gC:=hid GX
 clear GX
 go_wp2_with fail
 refine(by exact Mi.out _ (H3.out.keeps gC.out):Calls _ _ _ _ _).mono ?_
 rintro e w4 ⟨rfl,Hr⟩
 have gQ:=hid (gh.out.trans (gC.out.trans Hr (fun _ _ e=>e)) (fun _ _ e=>e))
 have K8:=hid (HM.out.keeps (gC.out.trans Hr (fun _ _ e=>e)) (fun e=>e))
 have h4:=HH.out.keeps gQ.out
 obtain⟨b0,b1,_,b3,_,_,_,_,_,_,_,_,_,bl⟩:=h4.cells
 have e4:=((gC.out.trans Hr (fun _ _ e=>e)).cell (p:=⟨g,i*6,none⟩) gl3 (fun e=>e)).trans e0
 have gl4:=Nat.lt_of_lt_of_le gl3 (gC.out.trans Hr (fun _ _ e=>e)).size
 have H4:=hid h4
 clear Hr h4 e0 gl3 x0 x1 x2 xl y0 y1 y3 z1 z3 yl
 go_wp2_with fail
 go_quiet (fail)
 go_wp2_with fail
 go_quiet (fail)
 go_wp2_with fail
 generalize hw6:World.drewN w4 _=w6
 have Hz:Qaa (fun _=>False) w4 w6:=by rw[←hw6];exact Qda _ _
 have H6:=hid (H4.out.keeps Hz)
 have gH:=hid ((gQ.out.trans Hz (fun _ _ e=>e)).mono (S:=(· = r)) (fun _ _ e=>e.elim))
 have K2:=hid (K8.out.keeps Hz (fun e=>e))
 clear Hz hw6
 have eX:=hid (Qtb w6 r base file L (.slice (some ⟨g,0,none⟩) L.length cap) ov (i) D H6.out [47] (by decide))
 refine(by exact eX.out:Calls _ _ _ _ _).mono ?_
 rintro e w7 ⟨rfl,Gs,_,t2⟩
 have cf:=hid (show QIb w7 r file L k c from by injection lR.out with e1 e2;rw[e1,e2];exact t2 kA.out)
 have eJ:=hid (K2.out.keeps Gs G2)
 have MT:=hid (gH.out.trans Gs (fun _ _ e=>e))
 obtain⟨v0,v1,v2,_,_,_,vl⟩:=three eJ.out
 clear Gs t2
 go_wp2_with fail
 refine(by exact Q8a w7 r file L k c cf.out _ _ _ _ _ _ _ _ _:Calls _ _ _ _ _).mono ?_
 rintro e w8 ⟨rfl,gY,gE⟩
 have K7:Hid (Calls Tryz.prog 66 #[.pointer (some ⟨r,0,none⟩),.int .i64 0] w8 (fun e w'=>e = .returned (.tuple #[])∧w8=w')):=hid (by
  have h9:=Qoc w8 r file L k c gY 0 (by decide)
  rw[show(((0:Nat):Int))=0 from rfl]at h9
  exact h9)
 have GS:=hid ((MT.out.trans (gE.mono (S:=(· = r)) (fun _ _ e=>e.elim)) (fun _ _ e=>e)).below HH.out.size H9.out)
 have GG:=hid gY
 clear gY gE
 go_wp2_with fail
 refine(by exact K7.out:Calls _ _ _ _ _).mono ?_
 rintro e w9 ⟨rfl,rfl⟩
 have GQ:=hid (Qqa w8 r file L k c GG.out ⟨#[59]⟩)
 go_wp2_with fail
 refine(by exact GQ.out:Calls _ _ _ _ _).mono ?_
 rintro e w10 ⟨rfl,rfl⟩
 go_wp2_with fail
 refine bodyPost_ret (results_none rfl _ _ _) rfl ?_
 exact⟨rfl,GS.out,GG.out⟩
set_option maxRecDepth 100000 in
theorem Qtl(r base:Nat)(file:Int)(L:List Tok)(lv:Value)(w:World)(ov:Value)(i:Nat)(D:List Qwa)(h:Q4a w r base file L lv ov i D)(hB:B4C r base file L lv (QEc L))(h5:(tkN L i).kind=5)(hl:Qra (tkN L i).text=true)(hs:isK L (i+1) 4 [47]=true)(kF:D.length≤2*i) :
 Calls Tryz.prog 34 #[.pointer (some ⟨r,0,none⟩)] w (Q9b r base file L lv D (QDc L (Qxb L (QEc L) (.body ⟨1,txN L i,⟨#[47]⟩,[],(tkN L i).line,(tkN L i).col⟩ 0) (i+1+1))) w):=by
 have h1:isK L i 7 [105,110,99,108,117,100,101]=false:=by unfold isK;rw[decide_eq_false (by rw[h5];decide)];rfl
 have h2:isK L i 7 [100,101,108,101,116,101,45,110,111,100,101]=false:=by unfold isK;rw[decide_eq_false (by rw[h5];decide)];rfl
 obtain⟨c0,c1,c2,c3,_,_,_,f1,f2,f3,_,_,_,cl⟩:=h.cells
 obtain⟨n1,n2⟩:=h.num
 have HH:=hid h
 have gU:=hid (h.ok.next h.lt (by rw[h5];decide))
 obtain⟨g,cap,rfl,hg,d0,d1,d2,d3,d4,d5⟩:=h.toks.at h.lt
 have gl:g<w.heap.size:=World.block_lt_of_cell? w _ d0
 rw[h5]at d0
 obtain⟨tl,H7⟩:∃t,t=(tkN L i).line:=⟨_,rfl⟩
 obtain⟨tc,Gb⟩:∃t,t=(tkN L i).col:=⟨_,rfl⟩
 rw[←H7]at d4
 rw[←Gb]at d5
 have KF:=hid H7
 have KE:=hid Gb
 clear H7 Gb
 have hN:=Qca.new w #[.int .i64 0,.int .i64 0,.int .i64 0] 27
 have Hl:Below w.heap.size w (w.alloc (.cells #[.int .i64 0,.int .i64 0,.int .i64 0] 27)):=(Below.refl _ _).alloc (Nat.le_refl _) _
 have c0':=(Hl.cell cl).trans c0
 have c1':=(Hl.cell cl).trans c1
 have d3':=(Hl.cell gl).trans d3
 have d4':=(Hl.cell gl).trans d4
 have d5':=(Hl.cell gl).trans d5
 obtain⟨m0,m1,m2,mf0,mf1,mf2,ml⟩:=three hN
 have hM:=(Qca.new w #[.int .i64 file,.int .i64 tl,.int .i64 tc] 27).drew
 have Hd:Qaa (fun _=>False) w (w.alloc (.cells #[.int .i64 file,.int .i64 tl,.int .i64 tc] 27)).drew:=((Qaa.refl _ w).alloc _).drew
 have h3:=h.keeps Hd
 obtain⟨x0,x1,x2,_,_,_,xl⟩:=three hM
 obtain⟨y0,y1,_,y3,_,_,_,z1,_,z3,_,_,_,yl⟩:=h3.cells
 have e0:=(Hd.cell (p:=⟨g,i*6,none⟩) gl (fun e=>e)).trans d0
 have gl3:=Nat.lt_of_lt_of_le gl Hd.size
 have H3:=hid h3
 have gh:=hid Hd
 have HM:=hid hM
 have Hu:=fun wx hx=>QZb wx r base file L (.slice (some ⟨g,0,none⟩) L.length cap) ov i D hx 7 [105,110,99,108,117,100,101] (by decide)
 have gz:=fun wx hx=>QZb wx r base file L (.slice (some ⟨g,0,none⟩) L.length cap) ov i D hx 7 [100,101,108,101,116,101,45,110,111,100,101] (by decide)
 rw[h1]at Hu
 rw[h2]at gz
 have KC:=hid Hu
 have Mi:=hid gz
 have G2:w.heap.size≠r:=by omega
 have H9:=hid (show ∀b,b<base→¬b=r from fun b hb e=>by have:=h.low;omega)
 have mD:=hid (fun wx hx=>Qec wx r base file L (.slice (some ⟨g,0,none⟩) L.length cap) ov i D hx 5 (by decide))
 rw[show Qja L 5 (QKa 3) i = .ok (i+1)from by unfold Qja;rw[if_pos h5];exact if_pos hl]at mD
 unfold Qbb at mD
 obtain⟨LX,cq⟩:∃x,x=txN L i:=⟨_,rfl⟩
 rw[←cq]at mD
 rw[←cq]
 obtain⟨BR,MZ⟩:∃R,R=Qxb L (QEc L) (.body ⟨1,LX,⟨#[47]⟩,[],(tkN L i).line,(tkN L i).col⟩ 0) (i+1+1):=⟨_,rfl⟩
 have KY:Hid (∀wx ovx,Q4a wx r base file L (.slice (some ⟨g,0,none⟩) L.length cap) ovx (i+1+1) (D++[⟨1,LX,⟨#[47]⟩,[],tl,tc⟩])→Calls Tryz.prog 66 #[.pointer (some ⟨r,0,none⟩),.int .i64 0] wx (Q9b r base file L (.slice (some ⟨g,0,none⟩) L.length cap) D BR wx)):=hid (fun wx ovx hx=>by
  have h9:=hB wx ovx (i+1+1) D ⟨1,LX,⟨#[47]⟩,[],tl,tc⟩ 0 hx (by omega) (by unfold QEc;omega) (by omega)
  rw[show(((0:Nat):Int))=0 from rfl,KF.out,KE.out,←MZ]at h9
  exact h9)
 rw[←MZ]
 have j5:=hid kF
 have kA:=hid hs
 clear h h1 h2 Hu gz hN Hl hM Hd h3 MZ hB kF hs hl cq h5
 go_enter Tryz.func34,Tryz.ntmps34
 go_wp2_with fail
 go_region
 generalize (w.alloc (.cells #[.int .i64 file,.int .i64 tl,.int .i64 tc] 27)).drew=w3 at *
 clear c0 c1 c2 c3 d0 d1 d2 d3 d4 d5 c0' c1' d3' d4' d5' m0 m1 m2 mf0 mf1 mf2 ml gl cl f1 f2 f3
 go_wp2_with fail
 refine(by exact KC.out _ H3.out:Calls _ _ _ _ _).mono ?_
 rintro e w40 ⟨rfl,GX⟩
 have gC:=hid GX
 clear GX
 go_wp2_with fail
 refine(by exact Mi.out _ (H3.out.keeps gC.out):Calls _ _ _ _ _).mono ?_
 rintro e w4 ⟨rfl,Hr⟩
 have gQ:=hid (gh.out.trans (gC.out.trans Hr (fun _ _ e=>e)) (fun _ _ e=>e))
 have K8:=hid (HM.out.keeps (gC.out.trans Hr (fun _ _ e=>e)) (fun e=>e))
 have h4:=HH.out.keeps gQ.out
 obtain⟨b0,b1,_,b3,_,_,_,_,_,_,_,_,_,bl⟩:=h4.cells
 have e4:=((gC.out.trans Hr (fun _ _ e=>e)).cell (p:=⟨g,i*6,none⟩) gl3 (fun e=>e)).trans e0
 have gl4:=Nat.lt_of_lt_of_le gl3 (gC.out.trans Hr (fun _ _ e=>e)).size
 have H4:=hid h4
 clear Hr h4 e0 gl3 x0 x1 x2 xl y0 y1 y3 z1 z3 yl
 go_wp2_with fail
 go_quiet (fail)
 go_wp2_with fail
 go_quiet (fail)
 go_wp2_with fail
 generalize kH:World.drewN w4 _=w5
 have Hs:Qaa (fun _=>False) w4 w5:=by rw[←kH];exact Qda _ _
 clear kH
 refine(by exact mD.out _ (H4.out.keeps Hs):Calls _ _ _ _ _).mono ?_
 rintro e w6 ⟨Hz,rfl,kD⟩
 have mT:=(Hs.mono (S:=(· = r)) (fun _ _ e=>e.elim)).trans Hz (fun _ _ e=>e)
 have H6:=hid kD
 have gH:=hid ((gQ.out.mono (S:=(· = r)) (fun _ _ e=>e.elim)).trans mT (fun _ _ e=>e))
 have K2:=hid (K8.out.keeps mT G2)
 clear Hs Hz mT kD
 go_wp2_with fail
 have eX:=hid (Qtb w6 r base file L (.slice (some ⟨g,0,none⟩) L.length cap) ov (i+1) D H6.out [47] (by decide))
 refine(by exact eX.out:Calls _ _ _ _ _).mono ?_
 rintro e w7 ⟨rfl,Gs,t1,_⟩
 have jm:=hid (t1 kA.out)
 have eJ:=hid (K2.out.keeps Gs G2)
 have MT:=hid (gH.out.trans Gs (fun _ _ e=>e))
 obtain⟨v0,v1,v2,_,_,_,vl⟩:=three eJ.out
 have Kf:=hid (Qqb w7 r base file L (.slice (some ⟨g,0,none⟩) L.length cap) ov (i+1+1) D ⟨1,LX,⟨#[47]⟩,[],tl,tc⟩ (.slice none 0 0) jm.out (Qha.none _ _) (by have:=j5.out;omega))
 clear Gs t1
 go_wp2_with fail
 refine(by exact Kf.out:Calls _ _ _ _ _).mono ?_
 rintro e w8 ⟨rfl,ov8,gY,G7⟩
 have jp:=hid (KY.out w8 ov8 gY)
 have GS:=hid ((MT.out.below HH.out.size H9.out).trans G7)
 clear gY G7
 go_wp2_with fail
 refine(by exact jp.out:Calls _ _ _ _ _).mono ?_
 rintro e w9 ⟨rfl,GB,jb⟩
 have mA:=hid (GS.out.trans GB)
 clear GB
 cases BR with
 | ok q=>
  obtain⟨m,ds⟩:=q
  obtain⟨ov9,M4,JC⟩:=jb
  have gA:=hid (Qtb w9 r base file L _ ov9 m (D++ds) M4 [59] (by decide))
  have cB:=hid JC
  have cQ:=hid M4.size
  clear M4 JC
  go_wp2_with fail
  refine(by exact gA.out:Calls _ _ _ _ _).mono ?_
  rintro e w10 ⟨rfl,GC,t1,t2⟩
  have Kg:=hid (And.intro t1 t2)
  have mI:=hid (mA.out.trans (GC.below cQ.out H9.out))
  clear GC t1 t2
  go_wp2_with fail
  refine bodyPost_ret (results_none rfl _ _ _) rfl ?_
  refine⟨rfl,mI.out,?_⟩
  cases hg:isK L m 4 [59]with
  | true=>
   rw[QJc hg]
   exact⟨ov9,Kg.out.1 hg,by have:=cB.out;omega⟩
  | false=>
   rw[Qcc hg]
   exact Kg.out.2 hg
 | error q=>
  obtain⟨k,c⟩:=q
  have KB:=hid jb
  clear jb
  have GQ:=hid (Qqa w9 r file L k c KB.out ⟨#[59]⟩)
  go_wp2_with fail
  refine(by exact GQ.out:Calls _ _ _ _ _).mono ?_
  rintro e w10 ⟨rfl,rfl⟩
  go_wp2_with fail
  refine bodyPost_ret (results_none rfl _ _ _) rfl ?_
  exact⟨rfl,mA.out,KB.out⟩
set_option maxRecDepth 100000 in
theorem Q0j(r base:Nat)(file:Int)(L:List Tok)(lv:Value)(w:World)(ov:Value)(i:Nat)(D:List Qwa)(h:Q4a w r base file L lv ov i D)(h5:(tkN L i).kind=5)(hl:Qra (tkN L i).text=true)(hs:isK L (i+1) 4 [47]=false) :
 Calls Tryz.prog 34 #[.pointer (some ⟨r,0,none⟩)] w (Q9b r base file L lv D (.error (i+1,6)) w):=by
 have h1:isK L i 7 [105,110,99,108,117,100,101]=false:=by unfold isK;rw[decide_eq_false (by rw[h5];decide)];rfl
 have h2:isK L i 7 [100,101,108,101,116,101,45,110,111,100,101]=false:=by unfold isK;rw[decide_eq_false (by rw[h5];decide)];rfl
 obtain⟨c0,c1,c2,c3,_,_,_,f1,f2,f3,_,_,_,cl⟩:=h.cells
 obtain⟨n1,n2⟩:=h.num
 have HH:=hid h
 have gU:=hid (h.ok.next h.lt (by rw[h5];decide))
 obtain⟨g,cap,rfl,hg,d0,d1,d2,d3,d4,d5⟩:=h.toks.at h.lt
 have gl:g<w.heap.size:=World.block_lt_of_cell? w _ d0
 rw[h5]at d0
 obtain⟨tl,H7⟩:∃t,t=(tkN L i).line:=⟨_,rfl⟩
 obtain⟨tc,Gb⟩:∃t,t=(tkN L i).col:=⟨_,rfl⟩
 rw[←H7]at d4
 rw[←Gb]at d5
 have KF:=hid H7
 have KE:=hid Gb
 clear H7 Gb
 have hN:=Qca.new w #[.int .i64 0,.int .i64 0,.int .i64 0] 27
 have Hl:Below w.heap.size w (w.alloc (.cells #[.int .i64 0,.int .i64 0,.int .i64 0] 27)):=(Below.refl _ _).alloc (Nat.le_refl _) _
 have c0':=(Hl.cell cl).trans c0
 have c1':=(Hl.cell cl).trans c1
 have d3':=(Hl.cell gl).trans d3
 have d4':=(Hl.cell gl).trans d4
 have d5':=(Hl.cell gl).trans d5
 obtain⟨m0,m1,m2,mf0,mf1,mf2,ml⟩:=three hN
 have hM:=(Qca.new w #[.int .i64 file,.int .i64 tl,.int .i64 tc] 27).drew
 have Hd:Qaa (fun _=>False) w (w.alloc (.cells #[.int .i64 file,.int .i64 tl,.int .i64 tc] 27)).drew:=((Qaa.refl _ w).alloc _).drew
 have h3:=h.keeps Hd
 obtain⟨x0,x1,x2,_,_,_,xl⟩:=three hM
 obtain⟨y0,y1,_,y3,_,_,_,z1,_,z3,_,_,_,yl⟩:=h3.cells
 have e0:=(Hd.cell (p:=⟨g,i*6,none⟩) gl (fun e=>e)).trans d0
 have gl3:=Nat.lt_of_lt_of_le gl Hd.size
 have H3:=hid h3
 have gh:=hid Hd
 have HM:=hid hM
 have Hu:=fun wx hx=>QZb wx r base file L (.slice (some ⟨g,0,none⟩) L.length cap) ov i D hx 7 [105,110,99,108,117,100,101] (by decide)
 have gz:=fun wx hx=>QZb wx r base file L (.slice (some ⟨g,0,none⟩) L.length cap) ov i D hx 7 [100,101,108,101,116,101,45,110,111,100,101] (by decide)
 rw[h1]at Hu
 rw[h2]at gz
 have KC:=hid Hu
 have Mi:=hid gz
 have G2:w.heap.size≠r:=by omega
 have H9:=hid (show ∀b,b<base→¬b=r from fun b hb e=>by have:=h.low;omega)
 obtain⟨k,c,bG⟩:∃(k:Nat) (c:Int),(k,c)=(i+1,(6:Int)):=⟨_,_,rfl⟩
 rw[←bG]
 have lR:=hid bG
 have mD:=hid (fun wx hx=>Qec wx r base file L (.slice (some ⟨g,0,none⟩) L.length cap) ov i D hx 5 (by decide))
 rw[show Qja L 5 (QKa 3) i = .ok (i+1)from by unfold Qja;rw[if_pos h5];exact if_pos hl]at mD
 unfold Qbb at mD
 obtain⟨LX,cq⟩:∃x,x=txN L i:=⟨_,rfl⟩
 rw[←cq]at mD
 have kA:=hid hs
 clear h h1 h2 Hu gz hN Hl hM Hd h3 hs hl cq h5 bG
 go_enter Tryz.func34,Tryz.ntmps34
 go_wp2_with fail
 go_region
 generalize (w.alloc (.cells #[.int .i64 file,.int .i64 tl,.int .i64 tc] 27)).drew=w3 at *
 clear c0 c1 c2 c3 d0 d1 d2 d3 d4 d5 c0' c1' d3' d4' d5' m0 m1 m2 mf0 mf1 mf2 ml gl cl f1 f2 f3
 go_wp2_with fail
 refine(by exact KC.out _ H3.out:Calls _ _ _ _ _).mono ?_
 rintro e w40 ⟨rfl,GX⟩
 have gC:=hid GX
 clear GX
 go_wp2_with fail
 refine(by exact Mi.out _ (H3.out.keeps gC.out):Calls _ _ _ _ _).mono ?_
 rintro e w4 ⟨rfl,Hr⟩
 have gQ:=hid (gh.out.trans (gC.out.trans Hr (fun _ _ e=>e)) (fun _ _ e=>e))
 have K8:=hid (HM.out.keeps (gC.out.trans Hr (fun _ _ e=>e)) (fun e=>e))
 have h4:=HH.out.keeps gQ.out
 obtain⟨b0,b1,_,b3,_,_,_,_,_,_,_,_,_,bl⟩:=h4.cells
 have e4:=((gC.out.trans Hr (fun _ _ e=>e)).cell (p:=⟨g,i*6,none⟩) gl3 (fun e=>e)).trans e0
 have gl4:=Nat.lt_of_lt_of_le gl3 (gC.out.trans Hr (fun _ _ e=>e)).size
 have H4:=hid h4
 clear Hr h4 e0 gl3 x0 x1 x2 xl y0 y1 y3 z1 z3 yl
 go_wp2_with fail
 go_quiet (fail)
 go_wp2_with fail
 go_quiet (fail)
 go_wp2_with fail
 generalize kH:World.drewN w4 _=w5
 have Hs:Qaa (fun _=>False) w4 w5:=by rw[←kH];exact Qda _ _
 clear kH
 refine(by exact mD.out _ (H4.out.keeps Hs):Calls _ _ _ _ _).mono ?_
 rintro e w6 ⟨Hz,rfl,kD⟩
 have mT:=(Hs.mono (S:=(· = r)) (fun _ _ e=>e.elim)).trans Hz (fun _ _ e=>e)
 have H6:=hid kD
 have gH:=hid ((gQ.out.mono (S:=(· = r)) (fun _ _ e=>e.elim)).trans mT (fun _ _ e=>e))
 have K2:=hid (K8.out.keeps mT G2)
 clear Hs Hz mT kD
 go_wp2_with fail
 have eX:=hid (Qtb w6 r base file L (.slice (some ⟨g,0,none⟩) L.length cap) ov (i+1) D H6.out [47] (by decide))
 refine(by exact eX.out:Calls _ _ _ _ _).mono ?_
 rintro e w7 ⟨rfl,Gs,_,t2⟩
 have cf:=hid (show QIb w7 r file L k c from by injection lR.out with e1 e2;rw[e1,e2];exact t2 kA.out)
 have eJ:=hid (K2.out.keeps Gs G2)
 have MT:=hid (gH.out.trans Gs (fun _ _ e=>e))
 obtain⟨v0,v1,v2,_,_,_,vl⟩:=three eJ.out
 clear Gs t2
 go_wp2_with fail
 refine(by exact Q8a w7 r file L k c cf.out _ _ _ _ _ _ _ _ _:Calls _ _ _ _ _).mono ?_
 rintro e w8 ⟨rfl,gY,gE⟩
 have K7:Hid (Calls Tryz.prog 66 #[.pointer (some ⟨r,0,none⟩),.int .i64 0] w8 (fun e w'=>e = .returned (.tuple #[])∧w8=w')):=hid (by
  have h9:=Qoc w8 r file L k c gY 0 (by decide)
  rw[show(((0:Nat):Int))=0 from rfl]at h9
  exact h9)
 have GS:=hid ((MT.out.trans (gE.mono (S:=(· = r)) (fun _ _ e=>e.elim)) (fun _ _ e=>e)).below HH.out.size H9.out)
 have GG:=hid gY
 clear gY gE
 go_wp2_with fail
 refine(by exact K7.out:Calls _ _ _ _ _).mono ?_
 rintro e w9 ⟨rfl,rfl⟩
 have GQ:=hid (Qqa w8 r file L k c GG.out ⟨#[59]⟩)
 go_wp2_with fail
 refine(by exact GQ.out:Calls _ _ _ _ _).mono ?_
 rintro e w10 ⟨rfl,rfl⟩
 go_wp2_with fail
 refine bodyPost_ret (results_none rfl _ _ _) rfl ?_
 exact⟨rfl,GS.out,GG.out⟩
set_option maxRecDepth 100000 in
theorem Q1j(r base:Nat)(file:Int)(L:List Tok)(lv:Value)(w:World)(ov:Value)(i:Nat)(D:List Qwa)(h:Q4a w r base file L lv ov i D)(h5:(tkN L i).kind=5)(hl:Qra (tkN L i).text=false) :
 Calls Tryz.prog 34 #[.pointer (some ⟨r,0,none⟩)] w (Q9b r base file L lv D (.error (i,1)) w):=by
 have h1:isK L i 7 [105,110,99,108,117,100,101]=false:=by unfold isK;rw[decide_eq_false (by rw[h5];decide)];rfl
 have h2:isK L i 7 [100,101,108,101,116,101,45,110,111,100,101]=false:=by unfold isK;rw[decide_eq_false (by rw[h5];decide)];rfl
 obtain⟨c0,c1,c2,c3,_,_,_,f1,f2,f3,_,_,_,cl⟩:=h.cells
 obtain⟨n1,n2⟩:=h.num
 have HH:=hid h
 have gU:=hid (h.ok.next h.lt (by rw[h5];decide))
 obtain⟨g,cap,rfl,hg,d0,d1,d2,d3,d4,d5⟩:=h.toks.at h.lt
 have gl:g<w.heap.size:=World.block_lt_of_cell? w _ d0
 rw[h5]at d0
 obtain⟨tl,H7⟩:∃t,t=(tkN L i).line:=⟨_,rfl⟩
 obtain⟨tc,Gb⟩:∃t,t=(tkN L i).col:=⟨_,rfl⟩
 rw[←H7]at d4
 rw[←Gb]at d5
 have KF:=hid H7
 have KE:=hid Gb
 clear H7 Gb
 have hN:=Qca.new w #[.int .i64 0,.int .i64 0,.int .i64 0] 27
 have Hl:Below w.heap.size w (w.alloc (.cells #[.int .i64 0,.int .i64 0,.int .i64 0] 27)):=(Below.refl _ _).alloc (Nat.le_refl _) _
 have c0':=(Hl.cell cl).trans c0
 have c1':=(Hl.cell cl).trans c1
 have d3':=(Hl.cell gl).trans d3
 have d4':=(Hl.cell gl).trans d4
 have d5':=(Hl.cell gl).trans d5
 obtain⟨m0,m1,m2,mf0,mf1,mf2,ml⟩:=three hN
 have hM:=(Qca.new w #[.int .i64 file,.int .i64 tl,.int .i64 tc] 27).drew
 have Hd:Qaa (fun _=>False) w (w.alloc (.cells #[.int .i64 file,.int .i64 tl,.int .i64 tc] 27)).drew:=((Qaa.refl _ w).alloc _).drew
 have h3:=h.keeps Hd
 obtain⟨x0,x1,x2,_,_,_,xl⟩:=three hM
 obtain⟨y0,y1,_,y3,_,_,_,z1,_,z3,_,_,_,yl⟩:=h3.cells
 have e0:=(Hd.cell (p:=⟨g,i*6,none⟩) gl (fun e=>e)).trans d0
 have gl3:=Nat.lt_of_lt_of_le gl Hd.size
 have H3:=hid h3
 have gh:=hid Hd
 have HM:=hid hM
 have Hu:=fun wx hx=>QZb wx r base file L (.slice (some ⟨g,0,none⟩) L.length cap) ov i D hx 7 [105,110,99,108,117,100,101] (by decide)
 have gz:=fun wx hx=>QZb wx r base file L (.slice (some ⟨g,0,none⟩) L.length cap) ov i D hx 7 [100,101,108,101,116,101,45,110,111,100,101] (by decide)
 rw[h1]at Hu
 rw[h2]at gz
 have KC:=hid Hu
 have Mi:=hid gz
 have G2:w.heap.size≠r:=by omega
 have H9:=hid (show ∀b,b<base→¬b=r from fun b hb e=>by have:=h.low;omega)
 have mD:=hid (fun wx hx=>Qec wx r base file L (.slice (some ⟨g,0,none⟩) L.length cap) ov i D hx 5 (by decide))
 rw[show Qja L 5 (QKa 3) i = .error (i,1)from by unfold Qja;rw[if_pos h5];exact if_neg (by show ¬Qra _=true;rw[hl];exact Bool.false_ne_true)]at mD
 unfold Qbb at mD
 obtain⟨k,c,bG⟩:∃(k:Nat) (c:Int),(k,c)=(i,(1:Int)):=⟨_,_,rfl⟩
 rw[←bG]
 have lR:=hid bG
 clear h h1 h2 Hu gz hN Hl hM Hd h3 hl h5 bG
 go_enter Tryz.func34,Tryz.ntmps34
 go_wp2_with fail
 go_region
 generalize (w.alloc (.cells #[.int .i64 file,.int .i64 tl,.int .i64 tc] 27)).drew=w3 at *
 clear c0 c1 c2 c3 d0 d1 d2 d3 d4 d5 c0' c1' d3' d4' d5' m0 m1 m2 mf0 mf1 mf2 ml gl cl f1 f2 f3
 go_wp2_with fail
 refine(by exact KC.out _ H3.out:Calls _ _ _ _ _).mono ?_
 rintro e w40 ⟨rfl,GX⟩
 have gC:=hid GX
 clear GX
 go_wp2_with fail
 refine(by exact Mi.out _ (H3.out.keeps gC.out):Calls _ _ _ _ _).mono ?_
 rintro e w4 ⟨rfl,Hr⟩
 have gQ:=hid (gh.out.trans (gC.out.trans Hr (fun _ _ e=>e)) (fun _ _ e=>e))
 have K8:=hid (HM.out.keeps (gC.out.trans Hr (fun _ _ e=>e)) (fun e=>e))
 have h4:=HH.out.keeps gQ.out
 obtain⟨b0,b1,_,b3,_,_,_,_,_,_,_,_,_,bl⟩:=h4.cells
 have e4:=((gC.out.trans Hr (fun _ _ e=>e)).cell (p:=⟨g,i*6,none⟩) gl3 (fun e=>e)).trans e0
 have gl4:=Nat.lt_of_lt_of_le gl3 (gC.out.trans Hr (fun _ _ e=>e)).size
 have H4:=hid h4
 clear Hr h4 e0 gl3 x0 x1 x2 xl y0 y1 y3 z1 z3 yl
 go_wp2_with fail
 go_quiet (fail)
 go_wp2_with fail
 go_quiet (fail)
 go_wp2_with fail
 generalize kH:World.drewN w4 _=w5
 have Hs:Qaa (fun _=>False) w4 w5:=by rw[←kH];exact Qda _ _
 clear kH
 refine(by exact mD.out _ (H4.out.keeps Hs):Calls _ _ _ _ _).mono ?_
 rintro e w6 ⟨Hz,rfl,kD⟩
 have mT:=(Hs.mono (S:=(· = r)) (fun _ _ e=>e.elim)).trans Hz (fun _ _ e=>e)
 have jY:=hid (show QIb w6 r file L k c from by injection lR.out with e1 e2;rw[e1,e2];exact kD)
 have gH:=hid ((gQ.out.mono (S:=(· = r)) (fun _ _ e=>e.elim)).trans mT (fun _ _ e=>e))
 have K2:=hid (K8.out.keeps mT G2)
 obtain⟨v0,v1,v2,_,_,_,vl⟩:=three K2.out
 have wP:=hid (Qqa w6 r file L k c jY.out ⟨#[47]⟩)
 clear Hs Hz mT kD
 go_wp2_with fail
 refine(by exact wP.out:Calls _ _ _ _ _).mono ?_
 rintro e w7 ⟨rfl,rfl⟩
 go_wp2_with fail
 refine(by exact Q8a w6 r file L k c jY.out _ _ _ _ _ _ _ _ _:Calls _ _ _ _ _).mono ?_
 rintro e w8 ⟨rfl,gY,gE⟩
 have K7:Hid (Calls Tryz.prog 66 #[.pointer (some ⟨r,0,none⟩),.int .i64 0] w8 (fun e w'=>e = .returned (.tuple #[])∧w8=w')):=hid (by
  have h9:=Qoc w8 r file L k c gY 0 (by decide)
  rw[show(((0:Nat):Int))=0 from rfl]at h9
  exact h9)
 have GS:=hid ((gH.out.trans (gE.mono (S:=(· = r)) (fun _ _ e=>e.elim)) (fun _ _ e=>e)).below HH.out.size H9.out)
 have GG:=hid gY
 clear gY gE
 go_wp2_with fail
 refine(by exact K7.out:Calls _ _ _ _ _).mono ?_
 rintro e w9 ⟨rfl,rfl⟩
 have GQ:=hid (Qqa w8 r file L k c GG.out ⟨#[59]⟩)
 go_wp2_with fail
 refine(by exact GQ.out:Calls _ _ _ _ _).mono ?_
 rintro e w10 ⟨rfl,rfl⟩
 go_wp2_with fail
 refine bodyPost_ret (results_none rfl _ _ _) rfl ?_
 exact⟨rfl,GS.out,GG.out⟩
end Go.Proofs.YtofhcgbihonckaaGreat
