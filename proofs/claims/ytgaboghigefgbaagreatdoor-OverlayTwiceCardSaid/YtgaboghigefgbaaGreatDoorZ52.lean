/- OverlayTwice: a node of a tree and a name in memory (printed by govt.py). | OverlayTwice: region 16 (printed by govt.py). | OverlayTwice: region 36 (printed by govt.py). -/
import Derived.Test.YtgaboghigefgbaaGreatDoorZ35
import Derived.Test.YtgaboghigefgbaaGreatDoorZ2
set_option linter.all false
set_option maxHeartbeats 8000000
namespace Go.Proofs.YtgaboghigefgbaaGreatDoor
open Go.RowKit
structure Qns(zb g o n cap k db j:Nat)(x:ByteArray)(pr:Int)(nm:ByteArray)(pa:Option Addr)(pl pc:Nat)(ps:List Qla)(w:World):Prop where
 z:w.cell? ⟨zb,0,none⟩=some (.slice (some ⟨g,o,none⟩) n cap)
 c0:w.cell? ⟨g,o+k*3,none⟩=some (.int .i64 pr)
 c1:w.cell? ⟨g,o+k*3+1,none⟩=some (.string nm)
 c2:w.cell? ⟨g,o+k*3+2,none⟩=some (.slice pa pl pc)
 d:w.cell? ⟨db,j,none⟩=some (.string x)
 hp:QGa (fun _=>True) w (.slice pa pl pc) ps
theorem Qns.keep{zb g o n cap k db j:Nat}{x:ByteArray}{pr:Int}{nm:ByteArray}{pa:Option Addr}{pl pc:Nat}{ps:List Qla}{w w':World}(h:Qns zb g o n cap k db j x pr nm pa pl pc ps w)(b:Below w.heap.size w w'):Qns zb g o n cap k db j x pr nm pa pl pc ps w':=by
 have kp:=Qaa.of_fresh b (fun _=>False)
 have mv {g j:Nat} {v:Value} (h:w.cell? ⟨g,j,none⟩=some v):w'.cell? ⟨g,j,none⟩=some v:=(kp.cell (p:=⟨g,j,none⟩) (World.block_lt_of_cell? w _ h) (fun e=>e)).trans h
 exact⟨mv h.z,mv h.c0,mv h.c1,mv h.c2,mv h.d,h.hp.new b⟩
theorem QZt(pr:Int)(nm:ByteArray)(pa:Option Addr)(pl pc:Nat)(ps:List Qla)(x rv:ByteArray)(rb:Bool)(w:World)(JB:Hid (ofT ps x=(rv,rb)))(hp:QGa (fun _=>True) w (.slice pa pl pc) ps) :
 Calls Tryz.prog 14 #[.agg #[.int .i64 pr,.string nm,.slice pa pl pc],.string x] w fun e w'=>e = .returned (.tuple #[.string rv,.bool rb])∧Below w.heap.size w w':=by
 have h:=Qgt (fun _=>True) pr nm (.slice pa pl pc) ps x w hp
 rw[JB.out]at h
 exact h
noncomputable def QBi:Array Oper:=(QXa (Tryz.f3.body.getD .skip) 16).getD #[]
theorem otR:Qjc .any QBi=true:=by kernel_rfl
theorem Q6n:Qbc QBi=true:=by kernel_rfl
theorem Qzu:QBi.size=13:=by kernel_rfl
def OtF(zb g o n cap q db:Nat)(x:ByteArray)(pr:Int)(nm:ByteArray)(pa:Option Addr)(pl pc:Nat)(_:List Qla)(rv:ByteArray)(rb:Bool)(j:Nat):Value→World→Prop:=match j with
 | 0=>fun u _=>u = .pointer (some ⟨zb,0,none⟩)
 | 1=>fun u _=>u = .slice (some ⟨g,o,none⟩) n cap
 | 2=>fun u _=>u = .int .i64 (q:Int)
 | 3=>fun u _=>u = .pointer (some ⟨g,o+q*3,none⟩)
 | 4=>fun u _=>u = .agg #[.int .i64 pr,.string nm,.slice pa pl pc]
 | 5=>fun u _=>u = .pointer (some ⟨db,2,none⟩)
 | 6=>fun u _=>u = .string x
 | 7=>fun u _=>u = .tuple #[.string rv,.bool rb]
 | 8=>fun u _=>u = .tuple #[.string rv,.bool rb]
 | 9=>fun u _=>u = .string rv
 | 10=>fun u _=>u = .bool rb
 | 11=>fun u _=>u = .string rv
 | 12=>fun u _=>u = .bool rb
 | _=>fun _ _=>True
def OtC(zb g o n cap q db:Nat)(x:ByteArray)(pr:Int)(nm:ByteArray)(pa:Option Addr)(pl pc:Nat)(ps:List Qla)(_:ByteArray)(_:Bool)(w:World):Prop:=Qns zb g o n cap q db 2 x pr nm pa pl pc ps w
section
variable{zb g o n cap q db:Nat}{x:ByteArray}{pr:Int}{nm:ByteArray}{pa:Option Addr}{pl pc:Nat}{ps:List Qla}{rv:ByteArray}{rb:Bool}{w w':World}
theorem OtF.stable{j:Nat}{u:Value}(h:OtF zb g o n cap q db x pr nm pa pl pc ps rv rb j u w)(k:Below w.heap.size w w'):OtF zb g o n cap q db x pr nm pa pl pc ps rv rb j u w':=by
 unfold OtF at *
 split at h
 all_goals first
  | exact h
  | (obtain⟨nB,e,hh⟩:=h;exact⟨nB,e,hh.keeps (Qaa.of_fresh k (fun _=>False)) (fun e=>e)⟩)
end
set_option maxRecDepth 100000 in
theorem Q8l{Q:Exit→Act→World→Prop}(zb g o n cap q db:Nat)(x:ByteArray)(pr:Int)(nm:ByteArray)(pa:Option Addr)(pl pc:Nat)(ps:List Qla)(rv:ByteArray)(rb:Bool)(W w:World)(A:Act)(hsz:A.tmps.size=185)(JB:Hid (ofT ps x=(rv,rb)))(sJ:q<n)(hn:n≤1000)
 (a6:A.tmps.getD 6 undef = .pointer (some ⟨zb,0,none⟩)) (a14:A.tmps.getD 14 undef = .int .i64 (q:Int)) (a13:A.tmps.getD 13 undef = .pointer (some ⟨db,0,none⟩)) (hC0:OtC zb g o n cap q db x pr nm pa pl pc ps rv rb W) (hE0:Below W.heap.size W w)
 (hQ:∀c w',Qrb QBi A c→c.tmps.getD 16 undef = .string rv→c.tmps.getD 17 undef = .bool rb→Below W.heap.size W w'→Q .normal c w') :
 wpAny Tryz.prog .any QBi Q QBi.size (Array.replicate QBi.size false) A w:=by
 refine QVa (fun l c wx=>QAb QBi A (OtF zb g o n cap q db x pr nm pa pl pc ps rv rb) (fun _=>True) l c wx∧Below W.heap.size W wx) otR ?hend ?Hk _ _ _ _ (by simp) (by simp) ⟨QAb.start trivial,hE0⟩
 case hend=>
  rintro l c wx ⟨hI,hS⟩ hl
  have hh:∀k,k<13→l.getD k false=true:=fun k hk=>hl k (by rw[Qzu];exact hk)
  exact hQ c wx hI.1.1 (hI.fact 11 16 rfl (hh 11 (by decide))) (hI.fact 12 17 rfl (hh 12 (by decide))) hS
 intro l c wx mw i' op ho hl Ha K' hK'
 obtain⟨hI,hS⟩:=mw
 have mg:l.size=13:=by rw[hI.1.2.2.1.1,Qzu]
 have hi':i'<13:=by rw[←Qzu];exact(Array.getElem?_eq_some_iff.1 ho).1
 have Hf:=ho
 simp only[QBi,QXa,Tryz.f3,Option.getD_some,reduceIte,Nat.reduceEqDiff]at ho
 have s6:=(hI.slot 6 (by kernel_rfl)).trans a6
 have s14:=(hI.slot 14 (by kernel_rfl)).trans a14
 have s13:=(hI.slot 13 (by kernel_rfl)).trans a13
 have fs:=And.intro True.intro True.intro
 simp only[Array.getD_eq_getD_getElem?]at s6 s14 s13
 have GV:i'=0∨i'=1∨i'=2∨i'=3∨i'=4∨i'=5∨i'=6∨i'=7∨i'=8∨i'=9∨i'=10∨i'=11∨i'=12:=by omega
 clear hi'
 rcases GV with rfl|rfl|rfl|rfl|rfl|rfl|rfl|rfl|rfl|rfl|rfl|rfl|rfl
 all_goals cases ho
 ·go_simp
  exact hK' _ _ ⟨hI.step Q6n 0 79 rfl (by rw[hsz];decide) _ _ Hf Ha trivial (fun _ _ h=>h) rfl,hS⟩
 ·have e0:c.tmps.getD 79 undef = .pointer (some ⟨zb,0,none⟩):=hI.fact 0 79 rfl (hI.1.2.2.1.2.yes_far 13 Hf Ha (by decide) (by kernel_rfl))
  have f0:=e0
  simp only[Array.getD_eq_getD_getElem?]at e0
  have hc:OtC zb g o n cap q db x pr nm pa pl pc ps rv rb wx:=hC0.keep hS
  have z0:=hc.z
  have zl:=World.block_lt_of_cell? wx _ z0
  go_simp
  exact hK' _ _ ⟨hI.step Q6n 1 80 rfl (by rw[hsz];decide) _ _ Hf Ha trivial (fun _ _ h=>h) rfl,hS⟩
 ·go_simp
  exact hK' _ _ ⟨hI.step Q6n 2 81 rfl (by rw[hsz];decide) _ _ Hf Ha trivial (fun _ _ h=>h) rfl,hS⟩
 ·have e1:c.tmps.getD 80 undef = .slice (some ⟨g,o,none⟩) n cap:=hI.fact 1 80 rfl (hI.1.2.2.1.2.yes_far 13 Hf Ha (by decide) (by kernel_rfl))
  have f1:=e1
  simp only[Array.getD_eq_getD_getElem?]at e1
  have e2:c.tmps.getD 81 undef = .int .i64 (q:Int):=hI.fact 2 81 rfl (hI.1.2.2.1.2.yes_far 13 Hf Ha (by decide) (by kernel_rfl))
  have f2:=e2
  simp only[Array.getD_eq_getD_getElem?]at e2
  have hc:OtC zb g o n cap q db x pr nm pa pl pc ps rv rb wx:=hC0.keep hS
  have hb:(q:Int)<(n:Int):=by omega
  go_simp
  exact hK' _ _ ⟨hI.step Q6n 3 82 rfl (by rw[hsz];decide) _ _ Hf Ha trivial (fun _ _ h=>h) rfl,hS⟩
 ·have e3:c.tmps.getD 82 undef = .pointer (some ⟨g,o+q*3,none⟩):=hI.fact 3 82 rfl (hI.1.2.2.1.2.yes_far 13 Hf Ha (by decide) (by kernel_rfl))
  have f3:=e3
  simp only[Array.getD_eq_getD_getElem?]at e3
  have hc:OtC zb g o n cap q db x pr nm pa pl pc ps rv rb wx:=hC0.keep hS
  have c0:=hc.c0
  have c1:=hc.c1
  have c2:=hc.c2
  have cl:=World.block_lt_of_cell? wx _ c0
  go_simp
  exact hK' _ _ ⟨hI.step Q6n 4 83 rfl (by rw[hsz];decide) _ _ Hf Ha trivial (fun _ _ h=>h) rfl,hS⟩
 ·go_simp
  exact hK' _ _ ⟨hI.step Q6n 5 84 rfl (by rw[hsz];decide) _ _ Hf Ha trivial (fun _ _ h=>h) rfl,hS⟩
 ·have e5:c.tmps.getD 84 undef = .pointer (some ⟨db,2,none⟩):=hI.fact 5 84 rfl (hI.1.2.2.1.2.yes_far 13 Hf Ha (by decide) (by kernel_rfl))
  have f5:=e5
  simp only[Array.getD_eq_getD_getElem?]at e5
  have hc:OtC zb g o n cap q db x pr nm pa pl pc ps rv rb wx:=hC0.keep hS
  have d0:=hc.d
  have dl:=World.block_lt_of_cell? wx _ d0
  go_simp
  exact hK' _ _ ⟨hI.step Q6n 6 85 rfl (by rw[hsz];decide) _ _ Hf Ha trivial (fun _ _ h=>h) rfl,hS⟩
 ·have e4:c.tmps.getD 83 undef = .agg #[.int .i64 pr,.string nm,.slice pa pl pc]:=hI.fact 4 83 rfl (hI.1.2.2.1.2.yes_far 13 Hf Ha (by decide) (by kernel_rfl))
  have f4:=e4
  simp only[Array.getD_eq_getD_getElem?]at e4
  have e6:c.tmps.getD 85 undef = .string x:=hI.fact 6 85 rfl (hI.1.2.2.1.2.yes_far 13 Hf Ha (by decide) (by kernel_rfl))
  have f6:=e6
  simp only[Array.getD_eq_getD_getElem?]at e6
  have hc:OtC zb g o n cap q db x pr nm pa pl pc ps rv rb wx:=hC0.keep hS
  go_simp
  refine(QZt pr nm pa pl pc ps x rv rb wx JB hc.hp).mono ?_
  rintro e w2 ⟨rfl,Hc⟩
  exact hK' _ _ ⟨hI.step Q6n 7 86 rfl (by rw[hsz];decide) _ _ Hf Ha trivial (fun _ _ h=>OtF.stable h Hc) rfl,hS.trans (Hc.mono hS.size)⟩
 ·have e7:c.tmps.getD 86 undef = .tuple #[.string rv,.bool rb]:=hI.fact 7 86 rfl (hI.1.2.2.1.2.yes_far 13 Hf Ha (by decide) (by kernel_rfl))
  have f7:=e7
  simp only[Array.getD_eq_getD_getElem?]at e7
  go_simp
  exact hK' _ _ ⟨hI.step Q6n 8 78 rfl (by rw[hsz];decide) _ _ Hf Ha trivial (fun _ _ h=>h) rfl,hS⟩
 ·have e8:c.tmps.getD 78 undef = .tuple #[.string rv,.bool rb]:=hI.fact 8 78 rfl (hI.1.2.2.1.2.yes_far 13 Hf Ha (by decide) (by kernel_rfl))
  have f8:=e8
  simp only[Array.getD_eq_getD_getElem?]at e8
  go_simp
  exact hK' _ _ ⟨hI.step Q6n 9 87 rfl (by rw[hsz];decide) _ _ Hf Ha trivial (fun _ _ h=>h) rfl,hS⟩
 ·have e8:c.tmps.getD 78 undef = .tuple #[.string rv,.bool rb]:=hI.fact 8 78 rfl (hI.1.2.2.1.2.yes_far 13 Hf Ha (by decide) (by kernel_rfl))
  have f8:=e8
  simp only[Array.getD_eq_getD_getElem?]at e8
  go_simp
  exact hK' _ _ ⟨hI.step Q6n 10 88 rfl (by rw[hsz];decide) _ _ Hf Ha trivial (fun _ _ h=>h) rfl,hS⟩
 ·have e9:c.tmps.getD 87 undef = .string rv:=hI.fact 9 87 rfl (hI.1.2.2.1.2.yes_far 13 Hf Ha (by decide) (by kernel_rfl))
  have f9:=e9
  simp only[Array.getD_eq_getD_getElem?]at e9
  go_simp
  exact hK' _ _ ⟨hI.step Q6n 11 16 rfl (by rw[hsz];decide) _ _ Hf Ha trivial (fun _ _ h=>h) rfl,hS⟩
 ·have e10:c.tmps.getD 88 undef = .bool rb:=hI.fact 10 88 rfl (hI.1.2.2.1.2.yes_far 13 Hf Ha (by decide) (by kernel_rfl))
  have f10:=e10
  simp only[Array.getD_eq_getD_getElem?]at e10
  go_simp
  exact hK' _ _ ⟨hI.step Q6n 12 17 rfl (by rw[hsz];decide) _ _ Hf Ha trivial (fun _ _ h=>h) rfl,hS⟩
noncomputable def QCi:Array Oper:=(QXa (Tryz.f3.body.getD .skip) 36).getD #[]
theorem ovR:Qjc .any QCi=true:=by kernel_rfl
theorem Q7n:Qbc QCi=true:=by kernel_rfl
theorem QBu:QCi.size=13:=by kernel_rfl
def OvF(zb g o n cap q db:Nat)(x:ByteArray)(pr:Int)(nm:ByteArray)(pa:Option Addr)(pl pc:Nat)(_:List Qla)(rv:ByteArray)(rb:Bool)(j:Nat):Value→World→Prop:=match j with
 | 0=>fun u _=>u = .pointer (some ⟨zb,0,none⟩)
 | 1=>fun u _=>u = .slice (some ⟨g,o,none⟩) n cap
 | 2=>fun u _=>u = .int .i64 (q:Int)
 | 3=>fun u _=>u = .pointer (some ⟨g,o+q*3,none⟩)
 | 4=>fun u _=>u = .agg #[.int .i64 pr,.string nm,.slice pa pl pc]
 | 5=>fun u _=>u = .pointer (some ⟨db,0,none⟩)
 | 6=>fun u _=>u = .string x
 | 7=>fun u _=>u = .tuple #[.string rv,.bool rb]
 | 8=>fun u _=>u = .tuple #[.string rv,.bool rb]
 | 9=>fun u _=>u = .string rv
 | 10=>fun u _=>u = .bool rb
 | 11=>fun u _=>u = .string rv
 | 12=>fun u _=>u = .bool rb
 | _=>fun _ _=>True
def OvC(zb g o n cap q db:Nat)(x:ByteArray)(pr:Int)(nm:ByteArray)(pa:Option Addr)(pl pc:Nat)(ps:List Qla)(_:ByteArray)(_:Bool)(w:World):Prop:=Qns zb g o n cap q db 0 x pr nm pa pl pc ps w
section
variable{zb g o n cap q db:Nat}{x:ByteArray}{pr:Int}{nm:ByteArray}{pa:Option Addr}{pl pc:Nat}{ps:List Qla}{rv:ByteArray}{rb:Bool}{w w':World}
theorem OvF.stable{j:Nat}{u:Value}(h:OvF zb g o n cap q db x pr nm pa pl pc ps rv rb j u w)(k:Below w.heap.size w w'):OvF zb g o n cap q db x pr nm pa pl pc ps rv rb j u w':=by
 unfold OvF at *
 split at h
 all_goals first
  | exact h
  | (obtain⟨nB,e,hh⟩:=h;exact⟨nB,e,hh.keeps (Qaa.of_fresh k (fun _=>False)) (fun e=>e)⟩)
end
set_option maxRecDepth 100000 in
theorem Q9l{Q:Exit→Act→World→Prop}(zb g o n cap q db:Nat)(x:ByteArray)(pr:Int)(nm:ByteArray)(pa:Option Addr)(pl pc:Nat)(ps:List Qla)(rv:ByteArray)(rb:Bool)(W w:World)(A:Act)(hsz:A.tmps.size=185)(JB:Hid (ofT ps x=(rv,rb)))(sJ:q<n)(hn:n≤1000)
 (a6:A.tmps.getD 6 undef = .pointer (some ⟨zb,0,none⟩)) (a21:A.tmps.getD 21 undef = .int .i64 (q:Int)) (a24:A.tmps.getD 24 undef = .pointer (some ⟨db,0,none⟩)) (hC0:OvC zb g o n cap q db x pr nm pa pl pc ps rv rb W) (hE0:Below W.heap.size W w)
 (hQ:∀c w',Qrb QCi A c→c.tmps.getD 28 undef = .string rv→c.tmps.getD 29 undef = .bool rb→Below W.heap.size W w'→Q .normal c w') :
 wpAny Tryz.prog .any QCi Q QCi.size (Array.replicate QCi.size false) A w:=by
 refine QVa (fun l c wx=>QAb QCi A (OvF zb g o n cap q db x pr nm pa pl pc ps rv rb) (fun _=>True) l c wx∧Below W.heap.size W wx) ovR ?hend ?Hk _ _ _ _ (by simp) (by simp) ⟨QAb.start trivial,hE0⟩
 case hend=>
  rintro l c wx ⟨hI,hS⟩ hl
  have hh:∀k,k<13→l.getD k false=true:=fun k hk=>hl k (by rw[QBu];exact hk)
  exact hQ c wx hI.1.1 (hI.fact 11 28 rfl (hh 11 (by decide))) (hI.fact 12 29 rfl (hh 12 (by decide))) hS
 intro l c wx mw i' op ho hl Ha K' hK'
 obtain⟨hI,hS⟩:=mw
 have mg:l.size=13:=by rw[hI.1.2.2.1.1,QBu]
 have hi':i'<13:=by rw[←QBu];exact(Array.getElem?_eq_some_iff.1 ho).1
 have Hf:=ho
 simp only[QCi,QXa,Tryz.f3,Option.getD_some,reduceIte,Nat.reduceEqDiff]at ho
 have s6:=(hI.slot 6 (by kernel_rfl)).trans a6
 have s21:=(hI.slot 21 (by kernel_rfl)).trans a21
 have s24:=(hI.slot 24 (by kernel_rfl)).trans a24
 have fs:=And.intro True.intro True.intro
 simp only[Array.getD_eq_getD_getElem?]at s6 s21 s24
 have GV:i'=0∨i'=1∨i'=2∨i'=3∨i'=4∨i'=5∨i'=6∨i'=7∨i'=8∨i'=9∨i'=10∨i'=11∨i'=12:=by omega
 clear hi'
 rcases GV with rfl|rfl|rfl|rfl|rfl|rfl|rfl|rfl|rfl|rfl|rfl|rfl|rfl
 all_goals cases ho
 ·go_simp
  exact hK' _ _ ⟨hI.step Q7n 0 160 rfl (by rw[hsz];decide) _ _ Hf Ha trivial (fun _ _ h=>h) rfl,hS⟩
 ·have e0:c.tmps.getD 160 undef = .pointer (some ⟨zb,0,none⟩):=hI.fact 0 160 rfl (hI.1.2.2.1.2.yes_far 13 Hf Ha (by decide) (by kernel_rfl))
  have f0:=e0
  simp only[Array.getD_eq_getD_getElem?]at e0
  have hc:OvC zb g o n cap q db x pr nm pa pl pc ps rv rb wx:=hC0.keep hS
  have z0:=hc.z
  have zl:=World.block_lt_of_cell? wx _ z0
  go_simp
  exact hK' _ _ ⟨hI.step Q7n 1 161 rfl (by rw[hsz];decide) _ _ Hf Ha trivial (fun _ _ h=>h) rfl,hS⟩
 ·go_simp
  exact hK' _ _ ⟨hI.step Q7n 2 162 rfl (by rw[hsz];decide) _ _ Hf Ha trivial (fun _ _ h=>h) rfl,hS⟩
 ·have e1:c.tmps.getD 161 undef = .slice (some ⟨g,o,none⟩) n cap:=hI.fact 1 161 rfl (hI.1.2.2.1.2.yes_far 13 Hf Ha (by decide) (by kernel_rfl))
  have f1:=e1
  simp only[Array.getD_eq_getD_getElem?]at e1
  have e2:c.tmps.getD 162 undef = .int .i64 (q:Int):=hI.fact 2 162 rfl (hI.1.2.2.1.2.yes_far 13 Hf Ha (by decide) (by kernel_rfl))
  have f2:=e2
  simp only[Array.getD_eq_getD_getElem?]at e2
  have hc:OvC zb g o n cap q db x pr nm pa pl pc ps rv rb wx:=hC0.keep hS
  have hb:(q:Int)<(n:Int):=by omega
  go_simp
  exact hK' _ _ ⟨hI.step Q7n 3 163 rfl (by rw[hsz];decide) _ _ Hf Ha trivial (fun _ _ h=>h) rfl,hS⟩
 ·have e3:c.tmps.getD 163 undef = .pointer (some ⟨g,o+q*3,none⟩):=hI.fact 3 163 rfl (hI.1.2.2.1.2.yes_far 13 Hf Ha (by decide) (by kernel_rfl))
  have f3:=e3
  simp only[Array.getD_eq_getD_getElem?]at e3
  have hc:OvC zb g o n cap q db x pr nm pa pl pc ps rv rb wx:=hC0.keep hS
  have c0:=hc.c0
  have c1:=hc.c1
  have c2:=hc.c2
  have cl:=World.block_lt_of_cell? wx _ c0
  go_simp
  exact hK' _ _ ⟨hI.step Q7n 4 164 rfl (by rw[hsz];decide) _ _ Hf Ha trivial (fun _ _ h=>h) rfl,hS⟩
 ·go_simp
  exact hK' _ _ ⟨hI.step Q7n 5 165 rfl (by rw[hsz];decide) _ _ Hf Ha trivial (fun _ _ h=>h) rfl,hS⟩
 ·have e5:c.tmps.getD 165 undef = .pointer (some ⟨db,0,none⟩):=hI.fact 5 165 rfl (hI.1.2.2.1.2.yes_far 13 Hf Ha (by decide) (by kernel_rfl))
  have f5:=e5
  simp only[Array.getD_eq_getD_getElem?]at e5
  have hc:OvC zb g o n cap q db x pr nm pa pl pc ps rv rb wx:=hC0.keep hS
  have d0:=hc.d
  have dl:=World.block_lt_of_cell? wx _ d0
  go_simp
  exact hK' _ _ ⟨hI.step Q7n 6 166 rfl (by rw[hsz];decide) _ _ Hf Ha trivial (fun _ _ h=>h) rfl,hS⟩
 ·have e4:c.tmps.getD 164 undef = .agg #[.int .i64 pr,.string nm,.slice pa pl pc]:=hI.fact 4 164 rfl (hI.1.2.2.1.2.yes_far 13 Hf Ha (by decide) (by kernel_rfl))
  have f4:=e4
  simp only[Array.getD_eq_getD_getElem?]at e4
  have e6:c.tmps.getD 166 undef = .string x:=hI.fact 6 166 rfl (hI.1.2.2.1.2.yes_far 13 Hf Ha (by decide) (by kernel_rfl))
  have f6:=e6
  simp only[Array.getD_eq_getD_getElem?]at e6
  have hc:OvC zb g o n cap q db x pr nm pa pl pc ps rv rb wx:=hC0.keep hS
  go_simp
  refine(QZt pr nm pa pl pc ps x rv rb wx JB hc.hp).mono ?_
  rintro e w2 ⟨rfl,Hc⟩
  exact hK' _ _ ⟨hI.step Q7n 7 167 rfl (by rw[hsz];decide) _ _ Hf Ha trivial (fun _ _ h=>OvF.stable h Hc) rfl,hS.trans (Hc.mono hS.size)⟩
 ·have e7:c.tmps.getD 167 undef = .tuple #[.string rv,.bool rb]:=hI.fact 7 167 rfl (hI.1.2.2.1.2.yes_far 13 Hf Ha (by decide) (by kernel_rfl))
  have f7:=e7
  simp only[Array.getD_eq_getD_getElem?]at e7
  go_simp
  exact hK' _ _ ⟨hI.step Q7n 8 159 rfl (by rw[hsz];decide) _ _ Hf Ha trivial (fun _ _ h=>h) rfl,hS⟩
 ·have e8:c.tmps.getD 159 undef = .tuple #[.string rv,.bool rb]:=hI.fact 8 159 rfl (hI.1.2.2.1.2.yes_far 13 Hf Ha (by decide) (by kernel_rfl))
  have f8:=e8
  simp only[Array.getD_eq_getD_getElem?]at e8
  go_simp
  exact hK' _ _ ⟨hI.step Q7n 9 168 rfl (by rw[hsz];decide) _ _ Hf Ha trivial (fun _ _ h=>h) rfl,hS⟩
 ·have e8:c.tmps.getD 159 undef = .tuple #[.string rv,.bool rb]:=hI.fact 8 159 rfl (hI.1.2.2.1.2.yes_far 13 Hf Ha (by decide) (by kernel_rfl))
  have f8:=e8
  simp only[Array.getD_eq_getD_getElem?]at e8
  go_simp
  exact hK' _ _ ⟨hI.step Q7n 10 169 rfl (by rw[hsz];decide) _ _ Hf Ha trivial (fun _ _ h=>h) rfl,hS⟩
 ·have e9:c.tmps.getD 168 undef = .string rv:=hI.fact 9 168 rfl (hI.1.2.2.1.2.yes_far 13 Hf Ha (by decide) (by kernel_rfl))
  have f9:=e9
  simp only[Array.getD_eq_getD_getElem?]at e9
  go_simp
  exact hK' _ _ ⟨hI.step Q7n 11 28 rfl (by rw[hsz];decide) _ _ Hf Ha trivial (fun _ _ h=>h) rfl,hS⟩
 ·have e10:c.tmps.getD 169 undef = .bool rb:=hI.fact 10 169 rfl (hI.1.2.2.1.2.yes_far 13 Hf Ha (by decide) (by kernel_rfl))
  have f10:=e10
  simp only[Array.getD_eq_getD_getElem?]at e10
  go_simp
  exact hK' _ _ ⟨hI.step Q7n 12 29 rfl (by rw[hsz];decide) _ _ Hf Ha trivial (fun _ _ h=>h) rfl,hS⟩
end Go.Proofs.YtgaboghigefgbaaGreatDoor
