/- bringupref04: member: a part put behind the parts so far, region 24 (printed by gr4p.py). -/
import Derived.Test.YtofhcgbihonckaaGreatY42
import Derived.Test.YtofhcgbihonckaaGreatY26
import Derived.BigQuiet
import Derived.Deep.AppendSrc
import Derived.Deep.LoopGhost
import Derived.Deep.DeepCutAuto
import Derived.Deep.CutBlock
import Derived.Deep.CutRange
set_option linter.all false
set_option maxHeartbeats 8000000
namespace Go.Proofs.YtofhcgbihonckaaGreat
open Go.RowKit
theorem QVh{w:World}{b:Nat}{cs:Array Value}{t:TypeId}(h:Qca w b cs t):∀(j:Nat) (u:Value),cs.toList[j]? = some u→w.cell? ((⟨b,0,none⟩:Addr).add j)=some u:=by
 intro j u hj
 have mU:(⟨b,0,none⟩:Addr).add j=⟨b,j,none⟩:=by unfold Addr.add;split <;> simp_all
 rw[mU,h.cell j]
 simpa using hj
def RP(r base:Nat)(file:Int)(L:List Tok)(lv ov:Value)(D:List Qra)(R:Rs (Nat × QRa))(p:QRa)(w:World):Prop:=(∃k,R = .ok (k,p)∧QZa w r base file L lv ov k D)∨∃k c,R = .error (k,c)∧Qyb w r file L k c
theorem RP.keeps{w w':World}{r base:Nat}{file:Int}{L:List Tok}{lv ov:Value}{D:List Qra}{R:Rs (Nat × QRa)}{p:QRa}(h:RP r base file L lv ov D R p w)(k:Qaa (fun _=>False) w w'):RP r base file L lv ov D R p w':=by
 rcases h with⟨j,e1,e3⟩|⟨k',c,e1,e2⟩
 ·exact .inl ⟨j,e1,e3.keeps k⟩
 ·exact .inr ⟨k',c,e1,e2.keeps k (fun e=>e)⟩
theorem RP.turn{W w w':World}{r base i:Nat}{file:Int}{L:List Tok}{lv ov:Value}{D:List Qra}{R:Rs (Nat × QRa)}{p:QRa}(h:RP r base file L lv ov D R p w)(h0:QZa W r base file L lv ov i D)(GH:∀k q,R = .ok (k,q)→i≤k)(k:Qaa (· = r) W w')(ho:∀{xs:Array Value},Qca w r xs 78→Qca w' r xs 78):RP r base file L lv ov D R p w':=by
 rcases h with⟨j,e1,e3⟩|⟨k',c,e1,e0,lv',x',ov',hx⟩
 ·exact .inl ⟨j,e1,h0.turn k (ho e3.holds) e3.lt (GH j p e1)⟩
 ·exact .inr ⟨k',c,e1,e0,lv',x',ov',ho hx⟩
structure PaE(r base Z:Nat)(file:Int)(L:List Tok)(lv ov cv d0 d1 d2 d4 d5 d6:Value)(D:List Qra)(j:Nat)(acc:List QRa)(vs:List Value)(W:World)(p:QRa)(pv:Value)(B:Nat)(v8:Value)(l:Array Bool)(w:World):Prop where
 n3:l.getD 3 false=false→QZa w r base file L lv ov j D
 y3:l.getD 3 false=true→RP r base file L lv ov D (Qnb L j) p w∧Qea w base pv p.cells
 row:l.getD 5 false=false→w.ownsRow W.heap.size 75 3 cv acc.length (Qza acc vs)
 sub:∀k (h:k<acc.length) (h2:k<vs.length),Qea w base vs[k] acc[k].cells
 n7:l.getD 7 false=false→Qca w Z #[d0,d1,d2,cv,d4,d5,d6] 34
 b4:l.getD 4 false=true→l.getD 5 false=false→Qca w B #[.int .i64 p.kind,pv,.string p.text] 75
 r5:l.getD 5 false=true→w.ownsRow W.heap.size 75 3 v8 (acc.length+1) (Qza acc vs++[.int .i64 p.kind,pv,.string p.text])
 y7:l.getD 7 false=true→Qca w Z #[d0,d1,d2,v8,d4,d5,d6] 34
def PaF(r Z:Nat)(cv:Value)(p:QRa)(pv:Value)(B:Nat)(v8:Value)(j:Nat):Value→World→Prop:=match j with
 | 0=>fun u _=>u = .pointer (some ⟨Z,3,none⟩)
 | 1=>fun u _=>u=cv
 | 2=>fun u _=>u = .pointer (some ⟨r,0,none⟩)
 | 3=>fun u _=>u = .agg #[.int .i64 p.kind,pv,.string p.text]
 | 4=>fun u _=>u = .slice (some ⟨B,0,none⟩) 1 1
 | 5=>fun u _=>u=v8
 | 6=>fun u _=>u = .pointer (some ⟨Z,3,none⟩)
 | _=>fun _ _=>True
section
variable{r Z B j:Nat}{cv pv v8:Value}{p:QRa}{w w':World}{u:Value}
theorem PaF.world(h:PaF r Z cv p pv B v8 j u w):PaF r Z cv p pv B v8 j u w':=by
 unfold PaF at *
 split at h
 all_goals exact h
theorem PaF.gh_p{x:QRa}{y:Value}(h:PaF r Z cv p pv B v8 j u w)(n3:j≠3):PaF r Z cv x y B v8 j u w:=by
 unfold PaF at *
 split at h
 all_goals first
  | exact h
  | exact absurd rfl n3
theorem PaF.gh_B{x:Nat}(h:PaF r Z cv p pv B v8 j u w)(n4:j≠4):PaF r Z cv p pv x v8 j u w:=by
 unfold PaF at *
 split at h
 all_goals first
  | exact h
  | exact absurd rfl n4
theorem PaF.gh_v{x:Value}(h:PaF r Z cv p pv B v8 j u w)(n5:j≠5):PaF r Z cv p pv B x j u w:=by
 unfold PaF at *
 split at h
 all_goals first
  | exact h
  | exact absurd rfl n5
end
section
variable{r base Z:Nat}{file:Int}{L:List Tok}{lv ov cv d0 d1 d2 d4 d5 d6:Value}{D:List Qra}{j:Nat}{acc:List QRa}{vs:List Value}{W:World}{p:QRa}{pv:Value}{B:Nat}{v8:Value}{l:Array Bool}{w:World}{q:Nat}
theorem PaE.put(h:PaE r base Z file L lv ov cv d0 d1 d2 d4 d5 d6 D j acc vs W p pv B v8 l w)(n3:q≠3)(n4:q≠4)(n5:q≠5)(n7:q≠7):PaE r base Z file L lv ov cv d0 d1 d2 d4 d5 d6 D j acc vs W p pv B v8 (l.setIfInBounds q true) w:=by
 constructor
 ·rw[Qga n3];exact h.n3
 ·rw[Qga n3];exact h.y3
 ·rw[Qga n5];exact h.row
 ·exact h.sub
 ·rw[Qga n7];exact h.n7
 ·rw[Qga n4,Qga n5];exact h.b4
 ·rw[Qga n5];exact h.r5
 ·rw[Qga n7];exact h.y7
end
theorem Qff{n j:Nat}:(Array.replicate n false).getD j false=false:=by
 rw[Array.getD_eq_getD_getElem?]
 by_cases h:j<n
 ·rw[Array.getElem?_replicate,if_pos h];rfl
 ·rw[Array.getElem?_replicate,if_neg h];rfl
theorem QQj{w:World}{lo base:Nat}{v8 pv:Value}{acc:List QRa}{vs:List Value}{p:QRa}(kI:vs.length=acc.length)(Hb:w.ownsRow lo 75 3 v8 (acc.length+1) (Qza acc vs++[.int .i64 p.kind,pv,.string p.text]))(H9:∀k (h:k<acc.length) (h2:k<vs.length),Qea w base vs[k] acc[k].cells)(hC:Qea w base pv p.cells):Qwb w lo base v8 (acc++[p]):=by
 refine⟨vs++[pv],by simp[kI],?_,fun m hm bM=>?_⟩
 ·rw[Q0c acc vs p _ kI,List.length_append]
  exact Hb
 ·by_cases e:m<acc.length
  ·rw[List.getElem_append_left (by omega),List.getElem_append_left e]
   exact H9 m e (by omega)
  ·have Jt:m=acc.length:=by simp at hm;omega
   subst Jt
   rw[List.getElem_append_right (by omega),List.getElem_append_right (by omega)]
   simp only[kI,Nat.sub_self,List.getElem_cons_zero]
   exact hC
noncomputable def Qzd:Array Oper:=(QDc (Tryz.f109.body.getD .skip) 24).getD #[]
theorem phR:QFg .any Qzd=true:=by kernel_rfl
theorem QDo:QSh Qzd=true:=by kernel_rfl
theorem Qhq:Qzd.size=8:=by kernel_rfl
set_option maxRecDepth 100000 in
theorem Qni{Q:Exit→Act→World→Prop}(r base Z:Nat)(file:Int)(L:List Tok)(lv ov cv d0 d1 d2 d4 d5 d6:Value)(D:List Qra)(i j:Nat)(acc:List QRa)(vs:List Value)(W w:World)(A:Act)(Ge:A.tmps.size=191)
 (h0:QZa W r base file L lv ov i D) (GH:i≤j) (hw:QZa w r base file L lv ov j D) (hZ:Qca w Z #[d0,d1,d2,cv,d4,d5,d6] 34) (Mw:Z≠r) (hZW:W.heap.size≤Z) (kI:vs.length=acc.length) (Hb:w.ownsRow W.heap.size 75 3 cv acc.length (Qza acc vs)) (H9:∀k (h:k<acc.length) (h2:k<vs.length),Qea w base vs[k] acc[k].cells) (aY:acc.length≤10000)
 (a0:A.tmps.getD 0 undef = .pointer (some ⟨r,0,none⟩)) (a7:A.tmps.getD 7 undef = .pointer (some ⟨Z,0,none⟩)) (hS0:Qaa (· = r) W w)
 (hQ:∀c w' p v8,QNe Qzd A c→Qaa (· = r) W w'→Qca w' Z #[d0,d1,d2,v8,d4,d5,d6] 34→Qwb w' W.heap.size base v8 (acc++[p])→RP r base file L lv ov D (Qnb L j) p w'→Q .normal c w') :
 wpAny Tryz.prog .any Qzd Q Qzd.size (Array.replicate Qzd.size false) A w:=by
 have Hj:∀k q,Qnb L j = .ok (k,q)→i≤k:=fun k q e=>by have:=Qge e;omega
 refine Q9e (fun l c wx=>∃p pv B v8,Qjg Qzd A (PaF r Z cv p pv B v8) (fun wx=>Qaa (· = r) W wx) l c wx∧PaE r base Z file L lv ov cv d0 d1 d2 d4 d5 d6 D j acc vs W p pv B v8 l wx) phR ?kv ?mJ _ _ _ _ (by simp) (by simp)
  ⟨⟨0,[],⟨#[]⟩⟩,.slice none 0 0,0,.slice none 0 0,Qjg.start hS0,⟨fun _=>hw,fun h=>by rw[Qff]at h;(cases h),fun _=>Hb,H9,fun _=>hZ,fun h=>by rw[Qff]at h;(cases h),fun h=>by rw[Qff]at h;(cases h),fun h=>by rw[Qff]at h;(cases h)⟩⟩
 case kv=>
  rintro l c wx ⟨p,pv,B,v8,hI,hE⟩ hl
  have hh:∀k,k<8→l.getD k false=true:=fun k hk=>hl k (by rw[Qhq];exact hk)
  obtain⟨q1,q2⟩:=hE.y3 (hh 3 (by decide))
  exact hQ c wx p v8 hI.1 hI.2.1 (hE.y7 (hh 7 (by decide))) (QQj kI (hE.r5 (hh 5 (by decide))) hE.sub q2) q1
 intro l c wx iH i' op ho hl Hg K' hK'
 obtain⟨p,pv,B,v8,hI,hE⟩:=iH
 have sr:l.size=8:=by rw[hI.2.2.1.1,Qhq]
 have hi':i'<8:=by rw[←Qhq];exact(Array.getElem?_eq_some_iff.1 ho).1
 have Ku:=ho
 simp only[Qzd,QDc,Tryz.f109,Option.getD_some,reduceIte,Nat.reduceEqDiff]at ho
 have hS:=hI.2.1
 have s0:=(hI.slot 0 (by kernel_rfl)).trans a0
 have s7:=(hI.slot 7 (by kernel_rfl)).trans a7
 simp only[Array.getD_eq_getD_getElem?]at s0 s7
 have lq:i'=0∨i'=1∨i'=2∨i'=3∨i'=4∨i'=5∨i'=6∨i'=7:=by omega
 clear hi'
 rcases lq with rfl|rfl|rfl|rfl|rfl|rfl|rfl|rfl
 all_goals cases ho
 ·go_simp
  exact hK' _ _ ⟨p,pv,B,v8,hI.step QDo 0 156 rfl (by rw[Ge];decide) _ _ Ku Hg hS (fun _ _ h=>PaF.world h) rfl,hE.put (by decide) (by decide) (by decide) (by decide)⟩
 ·have u7:=(hI.2.2.1.2.no_far 8 hl (by kernel_rfl:Qtf Qzd 8 7 1=true))
  have hz:=hE.n7 u7
  have z3:=hz.cell 3
  have zl:=hz.lt
  have e0:c.tmps.getD 156 undef = .pointer (some ⟨Z,3,none⟩):=hI.fact 0 156 rfl (Qkb Hg 0 (by kernel_rfl))
  simp only[Array.getD_eq_getD_getElem?]at e0
  go_simp
  exact hK' _ _ ⟨p,pv,B,v8,hI.step QDo 1 157 rfl (by rw[Ge];decide) _ _ Ku Hg hS (fun _ _ h=>PaF.world h) rfl,hE.put (by decide) (by decide) (by decide) (by decide)⟩
 ·go_simp
  exact hK' _ _ ⟨p,pv,B,v8,hI.step QDo 2 158 rfl (by rw[Ge];decide) _ _ Ku Hg hS (fun _ _ h=>PaF.world h) rfl,hE.put (by decide) (by decide) (by decide) (by decide)⟩
 ·have hr:=hE.n3 hl
  have e2:c.tmps.getD 158 undef = .pointer (some ⟨r,0,none⟩):=hI.fact 2 158 rfl (Qkb Hg 2 (by kernel_rfl))
  simp only[Array.getD_eq_getD_getElem?]at e2
  have ME:=QUj wx r base file L lv ov j D hr
  have u4:=(hI.2.2.1.2.no_far 8 hl (by kernel_rfl:Qtf Qzd 8 4 3=true))
  have u5:=(hI.2.2.1.2.no_far 8 hl (by kernel_rfl:Qtf Qzd 8 5 3=true))
  have u7:=(hI.2.2.1.2.no_far 8 hl (by kernel_rfl:Qtf Qzd 8 7 3=true))
  have kM:=hE.row u5
  have hz:=hE.n7 u7
  go_simp
  refine ME.mono ?_
  rintro e w2 ⟨p',ca,cc,rfl,hC,Ho,hm⟩
  have KP:=hS.trans Ho (fun _ _ e=>e)
  have kK:=QNa.one hr.holds (by decide) (by decide) (by decide)
  have hJ:=hI.other (F':=PaF r Z cv p' (.slice ca p'.cells.length cc) B v8) (fun j hj u hF=>PaF.gh_p hF (QLe hj hl))
  refine hK' _ _ ⟨p',.slice ca p'.cells.length cc,B,v8,hJ.step QDo 3 159 rfl (by rw[Ge];decide) _ _ Ku Hg KP (fun _ _ h=>PaF.world h) rfl,?_⟩
  constructor
  ·intro h;rw[Qdc (by omega)]at h;cases h
  ·intro _
   refine⟨?_,hC⟩
   unfold RP
   cases hp:Qnb L j with
   | ok q=>
    obtain⟨k,q⟩:=q
    rw[hp]at hm
    obtain⟨rfl,ha⟩:=hm
    exact .inl ⟨k,rfl,ha⟩
   | error q=>
    obtain⟨k,c⟩:=q
    rw[hp]at hm
    exact .inr ⟨k,c,rfl,hm⟩
  ·rw[Qga (show 3≠5 by decide)];intro _;exact Qba kM Ho (Q8c kM kK (.inr (.inl rfl)))
  ·exact fun k h h2=>(hE.sub k h h2).keeps Ho kK
  ·rw[Qga (show 3≠7 by decide)];intro _;exact hz.keeps Ho Mw
  ·rw[Qga (show 3≠4 by decide)];intro a;rw[u4]at a;cases a
  ·rw[Qga (show 3≠5 by decide)];intro a;rw[u5]at a;cases a
  ·rw[Qga (show 3≠7 by decide)];intro a;rw[u7]at a;cases a
 ·have u5:=(hI.2.2.1.2.no_far 8 hl (by kernel_rfl:Qtf Qzd 8 5 4=true))
  have u7:=(hI.2.2.1.2.no_far 8 hl (by kernel_rfl:Qtf Qzd 8 7 4=true))
  have y3:=Qkb Hg 3 (by kernel_rfl)
  have e3:c.tmps.getD 159 undef = .agg #[.int .i64 p.kind,pv,.string p.text]:=hI.fact 3 159 rfl (Qkb Hg 3 (by kernel_rfl))
  simp only[Array.getD_eq_getD_getElem?]at e3
  obtain⟨q1,q2⟩:=hE.y3 y3
  have kM:=hE.row u5
  have hz:=hE.n7 u7
  obtain⟨pa,pc,rfl⟩:=q2.slice
  go_simp
  have Ho:Qaa (fun _=>False) wx (wx.alloc (.cells #[.int .i64 p.kind,.slice pa p.cells.length pc,.string p.text] 75)):=(Qaa.refl _ wx).alloc _
  have KP:=hS.trans Ho (fun _ _ e=>e.elim)
  have hJ:=hI.other (F':=PaF r Z cv p (.slice pa p.cells.length pc) wx.heap.size v8) (fun j hj u hF=>PaF.gh_B hF (QLe hj hl))
  refine hK' _ _ ⟨p,_,wx.heap.size,v8,hJ.step QDo 4 160 rfl (by rw[Ge];decide) _ _ Ku Hg KP (fun _ _ h=>PaF.world h) rfl,?_⟩
  constructor
  ·rw[Qga (show 4≠3 by decide)];intro a;rw[y3]at a;cases a
  ·intro _;exact⟨q1.keeps Ho,q2.keeps Ho (QNa.nil _)⟩
  ·rw[Qga (show 4≠5 by decide)];intro _;exact Qba kM Ho (fun _ _ e=>e)
  ·exact fun k h h2=>(hE.sub k h h2).keeps Ho (QNa.nil _)
  ·rw[Qga (show 4≠7 by decide)];intro _;exact hz.keeps Ho (fun e=>e)
  ·intro _ _;exact Qca.new _ _ _
  ·rw[Qga (show 4≠5 by decide)];intro a;rw[u5]at a;cases a
  ·rw[Qga (show 4≠7 by decide)];intro a;rw[u7]at a;cases a
 ·have u7:=(hI.2.2.1.2.no_far 8 hl (by kernel_rfl:Qtf Qzd 8 7 5=true))
  have y3:l.getD 3 false=true:=(hI.2.2.1.2.yes_far 8 Ku Hg (by decide) (by kernel_rfl))
  have y4:=Qkb Hg 4 (by kernel_rfl)
  have e1:c.tmps.getD 157 undef=cv:=hI.fact 1 157 rfl (Qkb Hg 1 (by kernel_rfl))
  simp only[Array.getD_eq_getD_getElem?]at e1
  have e4:c.tmps.getD 160 undef = .slice (some ⟨B,0,none⟩) 1 1:=hI.fact 4 160 rfl (Qkb Hg 4 (by kernel_rfl))
  simp only[Array.getD_eq_getD_getElem?]at e4
  obtain⟨q1,q2⟩:=hE.y3 y3
  have kM:=hE.row hl
  have hz:=hE.n7 u7
  have hb:=hE.b4 y4 hl
  obtain⟨pa,pc,rfl⟩:=q2.slice
  obtain⟨i0,mQ,GL,GM,GN⟩:=info_parts Quf
  have Ji:Src Tryz.prog 3 32 (.slice (some ⟨B,0,none⟩) 1 1) 1 [.int .i64 p.kind,.slice pa p.cells.length pc,.string p.text] wx:=Src.ofSlice _ Tryz.underlying32 _ 1 1 _ rfl (QVh hb) (fun u hu=>by simp at hu;rcases hu with rfl|rfl|rfl <;> rfl)
  refine QHd _ rfl _ _ 32 32 rfl W.heap.size 75 i0 _ 3 48 Tryz.underlying32 mQ GL GM GN rfl cv acc.length (Qza acc vs) (by simpa[Act.eval]using e1) kM (.slice (some ⟨B,0,none⟩) 1 1) (by simpa[Act.eval]using e4) 1 [.int .i64 p.kind,.slice pa p.cells.length pc,.string p.text] Ji (by unfold maxLen;omega) (by omega) hS.size ?_
  intro v' w2 Hl Ha GY
  have kg:Qaa (fun b=>cv.ownBlock=some b) wx w2:=Qaa.of_grown Ha (fun i e=>e)
  have KP:Qaa (· = r) W w2:=hS.grown Ha (fun g hg=>by have:=(Qva kM hg).2.1;left;omega)
  have gO:∀(v:Value) (cs:List Qzb),Qea wx base v cs→Qea w2 base v cs:=fun v cs hc=>Qba hc kg (fun g hg e=>by
   obtain⟨_,_,cur,q⟩:=Qva kM e
   exact QBa hc q (by decide) hg)
  have hJ:=hI.other (F':=PaF r Z cv p (.slice pa p.cells.length pc) B v') (fun j hj u hF=>PaF.gh_v hF (QLe hj hl))
  refine hK' _ _ ⟨p,_,B,v',hJ.step QDo 5 161 rfl (by rw[Ge];decide) _ _ Ku Hg KP (fun _ _ h=>PaF.world h) rfl,?_⟩
  constructor
  ·rw[Qga (show 5≠3 by decide)];intro a;rw[y3]at a;cases a
  ·intro _;exact⟨q1.turn h0 Hj KP (fun hx=>hx.keeps kg (QBa kM hx (by decide))),gO _ _ q2⟩
  ·intro a;rw[Qdc (by omega)]at a;cases a
  ·exact fun k h h2=>gO _ _ (hE.sub k h h2)
  ·rw[Qga (show 5≠7 by decide)];intro _;exact hz.keeps kg (QBa kM hz (by decide))
  ·intro _ a;rw[Qdc (by omega)]at a;cases a
  ·intro _;exact Hl
  ·rw[Qga (show 5≠7 by decide)];intro a;rw[u7]at a;cases a
 ·go_simp
  exact hK' _ _ ⟨p,pv,B,v8,hI.step QDo 6 162 rfl (by rw[Ge];decide) _ _ Ku Hg hS (fun _ _ h=>PaF.world h) rfl,hE.put (by decide) (by decide) (by decide) (by decide)⟩
 ·have y5:=Qkb Hg 5 (by kernel_rfl)
  have y3:l.getD 3 false=true:=(hI.2.2.1.2.yes_far 8 Ku Hg (by decide) (by kernel_rfl))
  have e5:c.tmps.getD 161 undef=v8:=hI.fact 5 161 rfl (Qkb Hg 5 (by kernel_rfl))
  simp only[Array.getD_eq_getD_getElem?]at e5
  have e6:c.tmps.getD 162 undef = .pointer (some ⟨Z,3,none⟩):=hI.fact 6 162 rfl (Qkb Hg 6 (by kernel_rfl))
  simp only[Array.getD_eq_getD_getElem?]at e6
  have eH:=hE.r5 y5
  obtain⟨q1,q2⟩:=hE.y3 y3
  have hz:=hE.n7 hl
  obtain⟨va,vc,rfl⟩:=Qma eH
  have z3:=hz.cell 3
  have zf:=hz.free 3
  have zl:=hz.lt
  go_simp
  have Ho:Qaa (· = Z) wx (wx.setCell ⟨Z,3,none⟩ (.slice va (acc.length+1) vc)):=(Qaa.refl (· = Z) wx).setCell (p:=⟨Z,3,none⟩) (.inr rfl) _
  have KP:Qaa (· = r) W (wx.setCell ⟨Z,3,none⟩ (.slice va (acc.length+1) vc)):=hS.setCell (p:=⟨Z,3,none⟩) (.inl hZW) _
  have Hh:=hz.set 3 (.slice va (acc.length+1) vc)
  have gO:∀(v:Value) (cs:List Qzb),Qea wx base v cs→Qea (wx.setCell ⟨Z,3,none⟩ (.slice va (acc.length+1) vc)) base v cs:=fun v cs hc=>Qba hc Ho (fun g hg e=>by cases e;exact QBa hc hz (by decide) hg)
  refine hK' _ _ ⟨p,pv,B,_,hI.stepN 7 rfl _ Ku Hg KP (fun _ _ h=>PaF.world h) trivial,?_⟩
  constructor
  ·rw[Qga (show 7≠3 by decide)];intro a;rw[y3]at a;cases a
  ·intro _;exact⟨q1.turn h0 Hj KP (fun hx=>hx.keeps Ho (fun e=>Mw e.symm)),gO _ _ q2⟩
  ·rw[Qga (show 7≠5 by decide)];intro a;rw[y5]at a;cases a
  ·exact fun k h h2=>gO _ _ (hE.sub k h h2)
  ·intro a;rw[Qdc (by omega)]at a;cases a
  ·rw[Qga (show 7≠4 by decide),Qga (show 7≠5 by decide)];intro _ a;rw[y5]at a;cases a
  ·intro _;exact Qba eH Ho (fun g hg e=>by cases e;exact QBa eH hz (by decide) hg)
  ·intro _;exact Hh
noncomputable def Q6b:Array Oper:=(QDc (Tryz.f109.body.getD .skip) 27).getD #[]
theorem QCq:QFg .any Q6b=true:=by kernel_rfl
theorem Qaj:QSh Q6b=true:=by kernel_rfl
theorem QEo:Q6b.size=8:=by kernel_rfl
set_option maxRecDepth 100000 in
theorem QNg{Q:Exit→Act→World→Prop}(r base Z:Nat)(file:Int)(L:List Tok)(lv ov cv d0 d1 d2 d4 d5 d6:Value)(D:List Qra)(i j:Nat)(acc:List QRa)(vs:List Value)(W w:World)(A:Act)(Ge:A.tmps.size=191)
 (h0:QZa W r base file L lv ov i D) (GH:i≤j) (hw:QZa w r base file L lv ov j D) (hZ:Qca w Z #[d0,d1,d2,cv,d4,d5,d6] 34) (Mw:Z≠r) (hZW:W.heap.size≤Z) (kI:vs.length=acc.length) (Hb:w.ownsRow W.heap.size 75 3 cv acc.length (Qza acc vs)) (H9:∀k (h:k<acc.length) (h2:k<vs.length),Qea w base vs[k] acc[k].cells) (aY:acc.length≤10000)
 (a0:A.tmps.getD 0 undef = .pointer (some ⟨r,0,none⟩)) (a7:A.tmps.getD 7 undef = .pointer (some ⟨Z,0,none⟩)) (hS0:Qaa (· = r) W w)
 (hQ:∀c w' p v8,QNe Q6b A c→Qaa (· = r) W w'→Qca w' Z #[d0,d1,d2,v8,d4,d5,d6] 34→Qwb w' W.heap.size base v8 (acc++[p])→RP r base file L lv ov D (Qnb L j) p w'→Q .normal c w') :
 wpAny Tryz.prog .any Q6b Q Q6b.size (Array.replicate Q6b.size false) A w:=by
 have Hj:∀k q,Qnb L j = .ok (k,q)→i≤k:=fun k q e=>by have:=Qge e;omega
 refine Q9e (fun l c wx=>∃p pv B v8,Qjg Q6b A (PaF r Z cv p pv B v8) (fun wx=>Qaa (· = r) W wx) l c wx∧PaE r base Z file L lv ov cv d0 d1 d2 d4 d5 d6 D j acc vs W p pv B v8 l wx) QCq ?kv ?mJ _ _ _ _ (by simp) (by simp)
  ⟨⟨0,[],⟨#[]⟩⟩,.slice none 0 0,0,.slice none 0 0,Qjg.start hS0,⟨fun _=>hw,fun h=>by rw[Qff]at h;(cases h),fun _=>Hb,H9,fun _=>hZ,fun h=>by rw[Qff]at h;(cases h),fun h=>by rw[Qff]at h;(cases h),fun h=>by rw[Qff]at h;(cases h)⟩⟩
 case kv=>
  rintro l c wx ⟨p,pv,B,v8,hI,hE⟩ hl
  have hh:∀k,k<8→l.getD k false=true:=fun k hk=>hl k (by rw[QEo];exact hk)
  obtain⟨q1,q2⟩:=hE.y3 (hh 3 (by decide))
  exact hQ c wx p v8 hI.1 hI.2.1 (hE.y7 (hh 7 (by decide))) (QQj kI (hE.r5 (hh 5 (by decide))) hE.sub q2) q1
 intro l c wx iH i' op ho hl Hg K' hK'
 obtain⟨p,pv,B,v8,hI,hE⟩:=iH
 have sr:l.size=8:=by rw[hI.2.2.1.1,QEo]
 have hi':i'<8:=by rw[←QEo];exact(Array.getElem?_eq_some_iff.1 ho).1
 have Ku:=ho
 simp only[Q6b,QDc,Tryz.f109,Option.getD_some,reduceIte,Nat.reduceEqDiff]at ho
 have hS:=hI.2.1
 have s0:=(hI.slot 0 (by kernel_rfl)).trans a0
 have s7:=(hI.slot 7 (by kernel_rfl)).trans a7
 simp only[Array.getD_eq_getD_getElem?]at s0 s7
 have lq:i'=0∨i'=1∨i'=2∨i'=3∨i'=4∨i'=5∨i'=6∨i'=7:=by omega
 clear hi'
 rcases lq with rfl|rfl|rfl|rfl|rfl|rfl|rfl|rfl
 all_goals cases ho
 ·go_simp
  exact hK' _ _ ⟨p,pv,B,v8,hI.step Qaj 0 179 rfl (by rw[Ge];decide) _ _ Ku Hg hS (fun _ _ h=>PaF.world h) rfl,hE.put (by decide) (by decide) (by decide) (by decide)⟩
 ·have u7:=(hI.2.2.1.2.no_far 8 hl (by kernel_rfl:Qtf Q6b 8 7 1=true))
  have hz:=hE.n7 u7
  have z3:=hz.cell 3
  have zl:=hz.lt
  have e0:c.tmps.getD 179 undef = .pointer (some ⟨Z,3,none⟩):=hI.fact 0 179 rfl (Qkb Hg 0 (by kernel_rfl))
  simp only[Array.getD_eq_getD_getElem?]at e0
  go_simp
  exact hK' _ _ ⟨p,pv,B,v8,hI.step Qaj 1 180 rfl (by rw[Ge];decide) _ _ Ku Hg hS (fun _ _ h=>PaF.world h) rfl,hE.put (by decide) (by decide) (by decide) (by decide)⟩
 ·go_simp
  exact hK' _ _ ⟨p,pv,B,v8,hI.step Qaj 2 181 rfl (by rw[Ge];decide) _ _ Ku Hg hS (fun _ _ h=>PaF.world h) rfl,hE.put (by decide) (by decide) (by decide) (by decide)⟩
 ·have hr:=hE.n3 hl
  have e2:c.tmps.getD 181 undef = .pointer (some ⟨r,0,none⟩):=hI.fact 2 181 rfl (Qkb Hg 2 (by kernel_rfl))
  simp only[Array.getD_eq_getD_getElem?]at e2
  have ME:=QUj wx r base file L lv ov j D hr
  have u4:=(hI.2.2.1.2.no_far 8 hl (by kernel_rfl:Qtf Q6b 8 4 3=true))
  have u5:=(hI.2.2.1.2.no_far 8 hl (by kernel_rfl:Qtf Q6b 8 5 3=true))
  have u7:=(hI.2.2.1.2.no_far 8 hl (by kernel_rfl:Qtf Q6b 8 7 3=true))
  have kM:=hE.row u5
  have hz:=hE.n7 u7
  go_simp
  refine ME.mono ?_
  rintro e w2 ⟨p',ca,cc,rfl,hC,Ho,hm⟩
  have KP:=hS.trans Ho (fun _ _ e=>e)
  have kK:=QNa.one hr.holds (by decide) (by decide) (by decide)
  have hJ:=hI.other (F':=PaF r Z cv p' (.slice ca p'.cells.length cc) B v8) (fun j hj u hF=>PaF.gh_p hF (QLe hj hl))
  refine hK' _ _ ⟨p',.slice ca p'.cells.length cc,B,v8,hJ.step Qaj 3 182 rfl (by rw[Ge];decide) _ _ Ku Hg KP (fun _ _ h=>PaF.world h) rfl,?_⟩
  constructor
  ·intro h;rw[Qdc (by omega)]at h;cases h
  ·intro _
   refine⟨?_,hC⟩
   unfold RP
   cases hp:Qnb L j with
   | ok q=>
    obtain⟨k,q⟩:=q
    rw[hp]at hm
    obtain⟨rfl,ha⟩:=hm
    exact .inl ⟨k,rfl,ha⟩
   | error q=>
    obtain⟨k,c⟩:=q
    rw[hp]at hm
    exact .inr ⟨k,c,rfl,hm⟩
  ·rw[Qga (show 3≠5 by decide)];intro _;exact Qba kM Ho (Q8c kM kK (.inr (.inl rfl)))
  ·exact fun k h h2=>(hE.sub k h h2).keeps Ho kK
  ·rw[Qga (show 3≠7 by decide)];intro _;exact hz.keeps Ho Mw
  ·rw[Qga (show 3≠4 by decide)];intro a;rw[u4]at a;cases a
  ·rw[Qga (show 3≠5 by decide)];intro a;rw[u5]at a;cases a
  ·rw[Qga (show 3≠7 by decide)];intro a;rw[u7]at a;cases a
 ·have u5:=(hI.2.2.1.2.no_far 8 hl (by kernel_rfl:Qtf Q6b 8 5 4=true))
  have u7:=(hI.2.2.1.2.no_far 8 hl (by kernel_rfl:Qtf Q6b 8 7 4=true))
  have y3:=Qkb Hg 3 (by kernel_rfl)
  have e3:c.tmps.getD 182 undef = .agg #[.int .i64 p.kind,pv,.string p.text]:=hI.fact 3 182 rfl (Qkb Hg 3 (by kernel_rfl))
  simp only[Array.getD_eq_getD_getElem?]at e3
  obtain⟨q1,q2⟩:=hE.y3 y3
  have kM:=hE.row u5
  have hz:=hE.n7 u7
  obtain⟨pa,pc,rfl⟩:=q2.slice
  go_simp
  have Ho:Qaa (fun _=>False) wx (wx.alloc (.cells #[.int .i64 p.kind,.slice pa p.cells.length pc,.string p.text] 75)):=(Qaa.refl _ wx).alloc _
  have KP:=hS.trans Ho (fun _ _ e=>e.elim)
  have hJ:=hI.other (F':=PaF r Z cv p (.slice pa p.cells.length pc) wx.heap.size v8) (fun j hj u hF=>PaF.gh_B hF (QLe hj hl))
  refine hK' _ _ ⟨p,_,wx.heap.size,v8,hJ.step Qaj 4 183 rfl (by rw[Ge];decide) _ _ Ku Hg KP (fun _ _ h=>PaF.world h) rfl,?_⟩
  constructor
  ·rw[Qga (show 4≠3 by decide)];intro a;rw[y3]at a;cases a
  ·intro _;exact⟨q1.keeps Ho,q2.keeps Ho (QNa.nil _)⟩
  ·rw[Qga (show 4≠5 by decide)];intro _;exact Qba kM Ho (fun _ _ e=>e)
  ·exact fun k h h2=>(hE.sub k h h2).keeps Ho (QNa.nil _)
  ·rw[Qga (show 4≠7 by decide)];intro _;exact hz.keeps Ho (fun e=>e)
  ·intro _ _;exact Qca.new _ _ _
  ·rw[Qga (show 4≠5 by decide)];intro a;rw[u5]at a;cases a
  ·rw[Qga (show 4≠7 by decide)];intro a;rw[u7]at a;cases a
 ·have u7:=(hI.2.2.1.2.no_far 8 hl (by kernel_rfl:Qtf Q6b 8 7 5=true))
  have y3:l.getD 3 false=true:=(hI.2.2.1.2.yes_far 8 Ku Hg (by decide) (by kernel_rfl))
  have y4:=Qkb Hg 4 (by kernel_rfl)
  have e1:c.tmps.getD 180 undef=cv:=hI.fact 1 180 rfl (Qkb Hg 1 (by kernel_rfl))
  simp only[Array.getD_eq_getD_getElem?]at e1
  have e4:c.tmps.getD 183 undef = .slice (some ⟨B,0,none⟩) 1 1:=hI.fact 4 183 rfl (Qkb Hg 4 (by kernel_rfl))
  simp only[Array.getD_eq_getD_getElem?]at e4
  obtain⟨q1,q2⟩:=hE.y3 y3
  have kM:=hE.row hl
  have hz:=hE.n7 u7
  have hb:=hE.b4 y4 hl
  obtain⟨pa,pc,rfl⟩:=q2.slice
  obtain⟨i0,mQ,GL,GM,GN⟩:=info_parts Quf
  have Ji:Src Tryz.prog 3 32 (.slice (some ⟨B,0,none⟩) 1 1) 1 [.int .i64 p.kind,.slice pa p.cells.length pc,.string p.text] wx:=Src.ofSlice _ Tryz.underlying32 _ 1 1 _ rfl (QVh hb) (fun u hu=>by simp at hu;rcases hu with rfl|rfl|rfl <;> rfl)
  refine QHd _ rfl _ _ 32 32 rfl W.heap.size 75 i0 _ 3 48 Tryz.underlying32 mQ GL GM GN rfl cv acc.length (Qza acc vs) (by simpa[Act.eval]using e1) kM (.slice (some ⟨B,0,none⟩) 1 1) (by simpa[Act.eval]using e4) 1 [.int .i64 p.kind,.slice pa p.cells.length pc,.string p.text] Ji (by unfold maxLen;omega) (by omega) hS.size ?_
  intro v' w2 Hl Ha GY
  have kg:Qaa (fun b=>cv.ownBlock=some b) wx w2:=Qaa.of_grown Ha (fun i e=>e)
  have KP:Qaa (· = r) W w2:=hS.grown Ha (fun g hg=>by have:=(Qva kM hg).2.1;left;omega)
  have gO:∀(v:Value) (cs:List Qzb),Qea wx base v cs→Qea w2 base v cs:=fun v cs hc=>Qba hc kg (fun g hg e=>by
   obtain⟨_,_,cur,q⟩:=Qva kM e
   exact QBa hc q (by decide) hg)
  have hJ:=hI.other (F':=PaF r Z cv p (.slice pa p.cells.length pc) B v') (fun j hj u hF=>PaF.gh_v hF (QLe hj hl))
  refine hK' _ _ ⟨p,_,B,v',hJ.step Qaj 5 184 rfl (by rw[Ge];decide) _ _ Ku Hg KP (fun _ _ h=>PaF.world h) rfl,?_⟩
  constructor
  ·rw[Qga (show 5≠3 by decide)];intro a;rw[y3]at a;cases a
  ·intro _;exact⟨q1.turn h0 Hj KP (fun hx=>hx.keeps kg (QBa kM hx (by decide))),gO _ _ q2⟩
  ·intro a;rw[Qdc (by omega)]at a;cases a
  ·exact fun k h h2=>gO _ _ (hE.sub k h h2)
  ·rw[Qga (show 5≠7 by decide)];intro _;exact hz.keeps kg (QBa kM hz (by decide))
  ·intro _ a;rw[Qdc (by omega)]at a;cases a
  ·intro _;exact Hl
  ·rw[Qga (show 5≠7 by decide)];intro a;rw[u7]at a;cases a
 ·go_simp
  exact hK' _ _ ⟨p,pv,B,v8,hI.step Qaj 6 185 rfl (by rw[Ge];decide) _ _ Ku Hg hS (fun _ _ h=>PaF.world h) rfl,hE.put (by decide) (by decide) (by decide) (by decide)⟩
 ·have y5:=Qkb Hg 5 (by kernel_rfl)
  have y3:l.getD 3 false=true:=(hI.2.2.1.2.yes_far 8 Ku Hg (by decide) (by kernel_rfl))
  have e5:c.tmps.getD 184 undef=v8:=hI.fact 5 184 rfl (Qkb Hg 5 (by kernel_rfl))
  simp only[Array.getD_eq_getD_getElem?]at e5
  have e6:c.tmps.getD 185 undef = .pointer (some ⟨Z,3,none⟩):=hI.fact 6 185 rfl (Qkb Hg 6 (by kernel_rfl))
  simp only[Array.getD_eq_getD_getElem?]at e6
  have eH:=hE.r5 y5
  obtain⟨q1,q2⟩:=hE.y3 y3
  have hz:=hE.n7 hl
  obtain⟨va,vc,rfl⟩:=Qma eH
  have z3:=hz.cell 3
  have zf:=hz.free 3
  have zl:=hz.lt
  go_simp
  have Ho:Qaa (· = Z) wx (wx.setCell ⟨Z,3,none⟩ (.slice va (acc.length+1) vc)):=(Qaa.refl (· = Z) wx).setCell (p:=⟨Z,3,none⟩) (.inr rfl) _
  have KP:Qaa (· = r) W (wx.setCell ⟨Z,3,none⟩ (.slice va (acc.length+1) vc)):=hS.setCell (p:=⟨Z,3,none⟩) (.inl hZW) _
  have Hh:=hz.set 3 (.slice va (acc.length+1) vc)
  have gO:∀(v:Value) (cs:List Qzb),Qea wx base v cs→Qea (wx.setCell ⟨Z,3,none⟩ (.slice va (acc.length+1) vc)) base v cs:=fun v cs hc=>Qba hc Ho (fun g hg e=>by cases e;exact QBa hc hz (by decide) hg)
  refine hK' _ _ ⟨p,pv,B,_,hI.stepN 7 rfl _ Ku Hg KP (fun _ _ h=>PaF.world h) trivial,?_⟩
  constructor
  ·rw[Qga (show 7≠3 by decide)];intro a;rw[y3]at a;cases a
  ·intro _;exact⟨q1.turn h0 Hj KP (fun hx=>hx.keeps Ho (fun e=>Mw e.symm)),gO _ _ q2⟩
  ·rw[Qga (show 7≠5 by decide)];intro a;rw[y5]at a;cases a
  ·exact fun k h h2=>gO _ _ (hE.sub k h h2)
  ·intro a;rw[Qdc (by omega)]at a;cases a
  ·rw[Qga (show 7≠4 by decide),Qga (show 7≠5 by decide)];intro _ a;rw[y5]at a;cases a
  ·intro _;exact Qba eH Ho (fun g hg e=>by cases e;exact QBa eH hz (by decide) hg)
  ·intro _;exact Hh
end Go.Proofs.YtofhcgbihonckaaGreat
