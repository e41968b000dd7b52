/- bringupref04: member: the region that reads a property's name and makes its definition. -/
import Derived.Test.YtofhcgbihonckaaGreatY30
import Derived.Test.YtofhcgbihonckaaGreatY2
import Derived.Deep.DeepCutAuto
set_option linter.all false
set_option maxHeartbeats 8000000
namespace Go.Proofs.YtofhcgbihonckaaGreat
open Go.RowKit
noncomputable def QDe:Array Oper:=(QDc (Tryz.f109.body.getD .skip) 21).getD #[]
theorem pgR:QFg .any QDe=true:=by kernel_rfl
theorem QNp:QSh QDe=true:=by kernel_rfl
theorem Qgq:QDe.size=6:=by kernel_rfl
def PgF(r:Nat)(file tl tc:Int)(Y:ByteArray)(Z:Nat)(j:Nat):Value→World→Prop:=match j with
 | 0=>fun u _=>u = .pointer (some ⟨r,0,none⟩)
 | 1=>fun u _=>u = .string Y
 | 2=>fun u _=>u = .agg #[.int .i64 file,.int .i64 tl,.int .i64 tc]
 | 3=>fun u _=>u = .agg #[.int .i64 3,.string ⟨#[]⟩,.string Y,.slice none 0 0,.int .i64 file,.int .i64 tl,.int .i64 tc]
 | 4=>fun u _=>u = .pointer (some ⟨Z,0,none⟩)
 | _=>fun _ _=>True
def RT(r base:Nat)(file:Int)(L:List Tok)(lv ov:Value)(D:List Qra)(T:Rs Nat)(X Y:ByteArray)(w:World):Prop:=(∃j,T = .ok j∧Y=X∧QZa w r base file L lv ov j D)∨∃k c,T = .error (k,c)∧Qyb w r file L k c
def QHo:Array Value:=#[.int .i64 0,.string ⟨#[]⟩,.string ⟨#[]⟩,.slice none 0 0,.int .i64 0,.int .i64 0,.int .i64 0]
def Qbn(file tl tc:Int)(Y:ByteArray):Array Value:=#[.int .i64 3,.string ⟨#[]⟩,.string Y,.slice none 0 0,.int .i64 file,.int .i64 tl,.int .i64 tc]
structure PgE(r base P:Nat)(file:Int)(L:List Tok)(lv ov:Value)(i:Nat)(D:List Qra)(T:Rs Nat)(X:ByteArray)(tl tc:Int)(W:World)(Y:ByteArray)(Z:Nat)(l:Array Bool)(w:World):Prop where
 n1:l.getD 1 false=false→QZa w r base file L lv ov i D
 y1:l.getD 1 false=true→RT r base file L lv ov D T X Y w
 pos:Qca w P #[.int .i64 file,.int .i64 tl,.int .i64 tc] 27
 n5:l.getD 4 false=true→l.getD 5 false=false→Qca w Z QHo 34∧W.heap.size≤Z∧Z≠r
 y5:l.getD 5 false=true→Qca w Z (Qbn file tl tc Y) 34∧W.heap.size≤Z∧Z≠r
section
variable{r base P:Nat}{file:Int}{L:List Tok}{lv ov:Value}{i:Nat}{D:List Qra}{T:Rs Nat}{X:ByteArray}{tl tc:Int}{W w w':World}{Y:ByteArray}{Z:Nat}{l:Array Bool}{j:Nat}
theorem PgF.world{u:Value}(h:PgF r file tl tc Y Z j u w):PgF r file tl tc Y Z j u w':=by
 unfold PgF at *
 split at h
 all_goals exact h
theorem PgF.gh_Y{x:ByteArray}{u:Value}(h:PgF r file tl tc Y Z j u w)(n1:j≠1)(n3:j≠3):PgF r file tl tc x Z j u w:=by
 unfold PgF at *
 split at h
 all_goals first
  | exact h
  | exact absurd rfl n1
  | exact absurd rfl n3
theorem PgF.gh_Z{x:Nat}{u:Value}(h:PgF r file tl tc Y Z j u w)(n4:j≠4):PgF r file tl tc Y x j u w:=by
 unfold PgF at *
 split at h
 all_goals first
  | exact h
  | exact absurd rfl n4
theorem RT.keeps(h:RT r base file L lv ov D T X Y w)(k:Qaa (fun _=>False) w w'):RT r base file L lv ov D T X Y w':=by
 rcases h with⟨j,e1,e2,e3⟩|⟨k',c,e1,e2⟩
 ·exact .inl ⟨j,e1,e2,e3.keeps k⟩
 ·exact .inr ⟨k',c,e1,e2.keeps k (fun e=>e)⟩
theorem RT.turn(h:RT r base file L lv ov D T X Y w)(h0:QZa W r base file L lv ov i D)(GH:∀j,T = .ok j→i≤j)(k:Qaa (· = r) W w')(ho:∀{xs:Array Value} {t:TypeId},Qca w r xs t→Qca w' r xs t):RT r base file L lv ov D T X Y w':=by
 rcases h with⟨j,e1,e2,e3⟩|⟨k',c,e1,e0,lv',x',ov',hx⟩
 ·exact .inl ⟨j,e1,e2,h0.turn k (ho e3.holds) e3.lt (GH j e1)⟩
 ·exact .inr ⟨k',c,e1,e0,lv',x',ov',ho hx⟩
theorem PgE.put(h:PgE r base P file L lv ov i D T X tl tc W Y Z l w)(n1:j≠1)(n4:j≠4)(n5:j≠5):PgE r base P file L lv ov i D T X tl tc W Y Z (l.setIfInBounds j true) w:=by
 constructor
 ·rw[Qga n1];exact h.n1
 ·rw[Qga n1];exact h.y1
 ·exact h.pos
 ·rw[Qga n4,Qga n5];exact h.n5
 ·rw[Qga n5];exact h.y5
end
theorem QJl{n j:Nat}:(Array.replicate n false).getD j false=false:=by
 rw[Array.getD_eq_getD_getElem?]
 by_cases h:j<n
 ·rw[Array.getElem?_replicate,if_pos h];rfl
 ·rw[Array.getElem?_replicate,if_neg h];rfl
set_option maxRecDepth 100000 in
theorem Q0f{Q:Exit→Act→World→Prop}(r base P:Nat)(file:Int)(L:List Tok)(lv ov:Value)(i:Nat)(D:List Qra)(T:Rs Nat)(X:ByteArray)(tl tc:Int)(W w:World)(A:Act)(Ge:A.tmps.size=191)
 (h0:QZa W r base file L lv ov i D) (GH:∀j,T = .ok j→i≤j) (GG:P≠r) (hw:QZa w r base file L lv ov i D) (hP:Qca w P #[.int .i64 file,.int .i64 tl,.int .i64 tc] 27)
 (hword:∀wx:World,QZa wx r base file L lv ov i D→Calls Tryz.prog 65 #[.pointer (some ⟨r,0,none⟩),.int .i64 1,.int .i64 2] wx fun e w'=>∃Y:ByteArray,Qaa (· = r) wx w'∧e = .returned (.string Y)∧RT r base file L lv ov D T X Y w')
 (a0:A.tmps.getD 0 undef = .pointer (some ⟨r,0,none⟩)) (a4:A.tmps.getD 4 undef = .pointer (some ⟨P,0,none⟩)) (hS0:Qaa (· = r) W w)
 (hQ:∀c w' Z Y,QNe QDe A c→Qaa (· = r) W w'→c.tmps.getD 7 undef = .pointer (some ⟨Z,0,none⟩)→Qca w' Z (Qbn file tl tc Y) 34→W.heap.size≤Z→Z≠r→RT r base file L lv ov D T X Y w'→Q .normal c w') :
 wpAny Tryz.prog .any QDe Q QDe.size (Array.replicate QDe.size false) A w:=by
 refine Q9e (fun l c wx=>∃Y Z,Qjg QDe A (PgF r file tl tc Y Z) (fun wx=>Qaa (· = r) W wx) l c wx∧PgE r base P file L lv ov i D T X tl tc W Y Z l wx) pgR ?kv ?mJ _ _ _ _ (by simp) (by simp)
  ⟨⟨#[]⟩,0,Qjg.start hS0,⟨fun _=>hw,fun h=>by rw[QJl]at h;(cases h),hP,fun h=>by rw[QJl]at h;(cases h),fun h=>by rw[QJl]at h;(cases h)⟩⟩
 case kv=>
  rintro l c wx ⟨Y,Z,hI,hE⟩ hl
  have hh:∀k,k<6→l.getD k false=true:=fun k hk=>hl k (by rw[Qgq];exact hk)
  obtain⟨q1,q2,q3⟩:=hE.y5 (hh 5 (by decide))
  exact hQ c wx Z Y hI.1 hI.2.1 (hI.fact 4 7 rfl (hh 4 (by decide))) q1 q2 q3 (hE.y1 (hh 1 (by decide)))
 intro l c wx iH i' op ho hl Hg K' hK'
 obtain⟨Y,Z,hI,hE⟩:=iH
 have sr:l.size=6:=by rw[hI.2.2.1.1,Qgq]
 have hi':i'<6:=by rw[←Qgq];exact(Array.getElem?_eq_some_iff.1 ho).1
 have Ku:=ho
 simp only[QDe,QDc,Tryz.f109,Option.getD_some,reduceIte,Nat.reduceEqDiff]at ho
 have hS:=hI.2.1
 have s0:=(hI.slot 0 (by kernel_rfl)).trans a0
 have s4:=(hI.slot 4 (by kernel_rfl)).trans a4
 simp only[Array.getD_eq_getD_getElem?]at s0 s4
 have lq:i'=0∨i'=1∨i'=2∨i'=3∨i'=4∨i'=5:=by omega
 clear hi'
 rcases lq with rfl|rfl|rfl|rfl|rfl|rfl
 all_goals cases ho
 ·go_simp
  exact hK' _ _ ⟨Y,Z,hI.step QNp 0 136 rfl (by rw[Ge];decide) _ _ Ku Hg hS (fun _ _ h=>PgF.world h) rfl,hE.put (by decide) (by decide) (by decide)⟩
 ·have e0:c.tmps.getD 136 undef = .pointer (some ⟨r,0,none⟩):=hI.fact 0 136 rfl (Qkb Hg 0 (by kernel_rfl))
  simp only[Array.getD_eq_getD_getElem?]at e0
  have ME:=hword wx (hE.n1 hl)
  go_simp
  refine ME.mono ?_
  rintro e w2 ⟨Y',Ho,rfl,gX⟩
  have KP:=hS.trans Ho (fun _ _ e=>e)
  have u3:=(hI.2.2.1.2.no_far 6 hl (by kernel_rfl:Qtf QDe 6 3 1=true))
  have u5:=(hI.2.2.1.2.no_far 6 hl (by kernel_rfl:Qtf QDe 6 5 1=true))
  have hJ:=hI.other (F':=PgF r file tl tc Y' Z) (fun j hj u hF=>PgF.gh_Y hF (QLe hj hl) (QLe hj u3))
  refine hK' _ _ ⟨Y',Z,hJ.step QNp 1 137 rfl (by rw[Ge];decide) _ _ Ku Hg KP (fun _ _ h=>PgF.world h) rfl,?_⟩
  constructor
  ·intro h;rw[Qdc (by omega)]at h;cases h
  ·intro _;exact gX
  ·exact hE.pos.keeps Ho GG
  ·rw[Qga (show 1≠4 by decide),Qga (show 1≠5 by decide)]
   intro a b
   obtain⟨q1,q2,q3⟩:=hE.n5 a b
   exact⟨q1.keeps Ho q3,q2,q3⟩
  ·rw[Qga (show 1≠5 by decide)];intro a;rw[u5]at a;cases a
 ·obtain⟨x0,x1,x2,_,_,_,xl⟩:=three hE.pos
  go_simp
  exact hK' _ _ ⟨Y,Z,hI.step QNp 2 138 rfl (by rw[Ge];decide) _ _ Ku Hg hS (fun _ _ h=>PgF.world h) rfl,hE.put (by decide) (by decide) (by decide)⟩
 ·have e1:c.tmps.getD 137 undef = .string Y:=hI.fact 1 137 rfl (Qkb Hg 1 (by kernel_rfl))
  have e2:c.tmps.getD 138 undef = .agg #[.int .i64 file,.int .i64 tl,.int .i64 tc]:=hI.fact 2 138 rfl (Qkb Hg 2 (by kernel_rfl))
  simp only[Array.getD_eq_getD_getElem?]at e1 e2
  go_simp
  exact hK' _ _ ⟨Y,Z,hI.step QNp 3 139 rfl (by rw[Ge];decide) _ _ Ku Hg hS (fun _ _ h=>PgF.world h) rfl,hE.put (by decide) (by decide) (by decide)⟩
 ·go_simp
  have Ho:Qaa (fun _=>False) wx (wx.alloc (.cells QHo 34)):=(Qaa.refl _ wx).alloc _
  have KP:=hS.trans Ho (fun _ _ e=>e.elim)
  have u5:=(hI.2.2.1.2.no_far 6 hl (by kernel_rfl:Qtf QDe 6 5 4=true))
  have hJ:=hI.other (F':=PgF r file tl tc Y wx.heap.size) (fun j hj u hF=>PgF.gh_Z hF (QLe hj hl))
  have mZ:r<wx.heap.size:=Nat.lt_of_lt_of_le h0.holds.lt hS.size
  refine hK' _ _ ⟨Y,wx.heap.size,hJ.step QNp 4 7 rfl (by rw[Ge];decide) _ _ Ku Hg KP (fun _ _ h=>PgF.world h) rfl,?_⟩
  constructor
  ·rw[Qga (show 4≠1 by decide)];intro a;exact(hE.n1 a).keeps Ho
  ·rw[Qga (show 4≠1 by decide)];intro a;exact(hE.y1 a).keeps Ho
  ·exact hE.pos.keeps Ho (fun e=>e)
  ·intro _ _;exact⟨Qca.new _ _ _,hS.size,by omega⟩
  ·rw[Qga (show 4≠5 by decide)];intro a;rw[u5]at a;cases a
 ·have e3:c.tmps.getD 139 undef = .agg #[.int .i64 3,.string ⟨#[]⟩,.string Y,.slice none 0 0,.int .i64 file,.int .i64 tl,.int .i64 tc]:=hI.fact 3 139 rfl (Qkb Hg 3 (by kernel_rfl))
  have e4:c.tmps.getD 7 undef = .pointer (some ⟨Z,0,none⟩):=hI.fact 4 7 rfl (Qkb Hg 4 (by kernel_rfl))
  simp only[Array.getD_eq_getD_getElem?]at e3 e4
  obtain⟨q1,q2,q3⟩:=hE.n5 (Qkb Hg 4 (by kernel_rfl)) hl
  have y1:l.getD 1 false=true:=(hI.2.2.1.2.yes_far 6 Ku Hg (by decide) (by kernel_rfl))
  have hT:=hE.y1 y1
  unfold QHo at q1
  obtain⟨z0,z1,z2,z3,z4,z5,z6⟩:=Qqa q1
  have g0:=q1.free 0
  have g1:=q1.free 1
  have g2:=q1.free 2
  have g3:=q1.free 3
  have g4:=q1.free 4
  have g5:=q1.free 5
  have g6:=q1.free 6
  have zl:=q1.lt
  go_simp
  have Ho:Qaa (· = Z) wx (((((((wx.setCell ⟨Z,0,none⟩ (.int .i64 3)).setCell ⟨Z,1,none⟩ (.string ⟨#[]⟩)).setCell ⟨Z,2,none⟩ (.string Y)).setCell ⟨Z,3,none⟩ (.slice none 0 0)).setCell ⟨Z,4,none⟩ (.int .i64 file)).setCell ⟨Z,5,none⟩ (.int .i64 tl)).setCell ⟨Z,6,none⟩ (.int .i64 tc)):=(((((((Qaa.refl (· = Z) wx).setCell (p:=⟨Z,0,none⟩) (.inr rfl) _).setCell (p:=⟨Z,1,none⟩) (.inr rfl) _).setCell (p:=⟨Z,2,none⟩) (.inr rfl) _).setCell (p:=⟨Z,3,none⟩) (.inr rfl) _).setCell (p:=⟨Z,4,none⟩) (.inr rfl) _).setCell (p:=⟨Z,5,none⟩) (.inr rfl) _).setCell (p:=⟨Z,6,none⟩) (.inr rfl) _
  have KP:Qaa (· = r) W (((((((wx.setCell ⟨Z,0,none⟩ (.int .i64 3)).setCell ⟨Z,1,none⟩ (.string ⟨#[]⟩)).setCell ⟨Z,2,none⟩ (.string Y)).setCell ⟨Z,3,none⟩ (.slice none 0 0)).setCell ⟨Z,4,none⟩ (.int .i64 file)).setCell ⟨Z,5,none⟩ (.int .i64 tl)).setCell ⟨Z,6,none⟩ (.int .i64 tc)):=((((((hS.setCell (p:=⟨Z,0,none⟩) (.inl q2) _).setCell (p:=⟨Z,1,none⟩) (.inl q2) _).setCell (p:=⟨Z,2,none⟩) (.inl q2) _).setCell (p:=⟨Z,3,none⟩) (.inl q2) _).setCell (p:=⟨Z,4,none⟩) (.inl q2) _).setCell (p:=⟨Z,5,none⟩) (.inl q2) _).setCell (p:=⟨Z,6,none⟩) (.inl q2) _
  have Hh:=((((((q1.set 0 (.int .i64 3)).set 1 (.string ⟨#[]⟩)).set 2 (.string Y)).set 3 (.slice none 0 0)).set 4 (.int .i64 file)).set 5 (.int .i64 tl)).set 6 (.int .i64 tc)
  refine hK' _ _ ⟨Y,Z,hI.stepN 5 rfl _ Ku Hg KP (fun _ _ h=>PgF.world h) trivial,?_⟩
  constructor
  ·rw[Qga (show 5≠1 by decide)];intro a;rw[y1]at a;cases a
  ·intro _;exact hT.turn h0 GH KP (fun hx=>hx.keeps Ho (fun e=>q3 e.symm))
  ·refine hE.pos.keeps Ho (fun e=>?_)
   have e2:P=Z:=e
   subst e2
   have:=hE.pos.symm.trans q1
   injection this with this;injection this with _ this;exact absurd this (by decide)
  ·intro _ a;rw[Qdc (by omega)]at a;cases a
  ·intro _;exact⟨Hh,q2,q3⟩
end Go.Proofs.YtofhcgbihonckaaGreat
