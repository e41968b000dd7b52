/- overlay: region 1 of Clash (printed by govc.py). | overlay.Clash. -/
import Derived.Test.YtgaboghigefgbaaGreatDoorZ27
import Derived.Test.YtgaboghigefgbaaGreatDoorZ2
import Derived.IntWalk
import Derived.Test.YtgaboghigefgbaaGreatDoorZ45
import Derived.BigQuiet
set_option linter.all false
set_option maxHeartbeats 8000000
namespace Go.Proofs.YtgaboghigefgbaaGreatDoor
open Go.Lib (hid)
open Go.RowKit
noncomputable def Qyi:Array Oper:=(QXa (Tryz.f16.body.getD .skip) 1).getD #[]
theorem odR:Qjc .any Qyi=true:=by kernel_rfl
theorem Q4s:Qbc Qyi=true:=by kernel_rfl
theorem Qtu:Qyi.size=7:=by kernel_rfl
def OdF(_ _:Nat)(tv ov:Value)(m:ByteArray)(T:List Qja)(nm:ByteArray)(es:List Qja)(j:Nat):Value→World→Prop:=match j with
 | 0=>fun u _=>u = .agg #[.string m,tv]
 | 1=>fun u _=>u = .int .i64 (QCa m T)
 | 2=>fun u _=>u = .agg #[.string nm,ov]
 | 3=>fun u _=>u = .int .i64 (QCa nm es)
 | 4=>fun u w=>∃nB:Nat,u = .slice (some ⟨nB,0,none⟩) 2 2∧Holds w nB #[.int .i64 (QCa m T),.int .i64 (QCa nm es)] 33
 | 5=>fun u _=>u = .int .i64 (if QCa m T=0 then QCa nm es else QCa m T)
 | 6=>fun u _=>u = .bool ((if QCa m T=0 then QCa nm es else QCa m T) != 0)
 | _=>fun _ _=>True
def OdC(tb ob:Nat)(tv ov:Value)(m:ByteArray)(T:List Qja)(nm:ByteArray)(es:List Qja)(w:World):Prop:=Holds w tb #[.string m,tv] 31∧Holds w ob #[.string nm,ov] 31∧Qjb w tv T∧Qjb w ov es∧Qog w
section
variable{tb ob:Nat}{tv ov:Value}{m:ByteArray}{T:List Qja}{nm:ByteArray}{es:List Qja}{w w':World}
theorem OdF.stable{j:Nat}{u:Value}(h:OdF tb ob tv ov m T nm es j u w)(k:Below w.heap.size w w'):OdF tb ob tv ov m T nm es j u w':=by
 unfold OdF at *
 split at h
 all_goals first
  | exact h
  | (obtain⟨nB,e,hh⟩:=h;exact⟨nB,e,hh.keeps (Qaa.of_fresh k (fun _=>False)) (fun e=>e)⟩)
end
set_option maxRecDepth 100000 in
theorem QZn{Q:Exit→Act→World→Prop}(tb ob:Nat)(tv ov:Value)(m:ByteArray)(T:List Qja)(nm:ByteArray)(es:List Qja)(W w:World)(A:Act)(hsz:A.tmps.size=32)(Hv:nm.size≤maxLen)(hz:QAe es)(j8:es.length≤1000000)(hm:m.size≤maxLen)(hy:QAe T)(j3:T.length≤1000000)
 (a2:A.tmps.getD 2 undef = .pointer (some ⟨tb,0,none⟩)) (a3:A.tmps.getD 3 undef = .pointer (some ⟨ob,0,none⟩)) (hC0:OdC tb ob tv ov m T nm es W) (hE0:Below W.heap.size W w)
 (hQ:∀c w',Qrb Qyi A c→c.tmps.getD 15 undef = .bool ((if QCa m T=0 then QCa nm es else QCa m T) != 0)→Below W.heap.size W w'→Q .normal c w') :
 wpAny Tryz.prog .any Qyi Q Qyi.size (Array.replicate Qyi.size false) A w:=by
 refine QVa (fun l c wx=>QAb Qyi A (OdF tb ob tv ov m T nm es) (fun _=>True) l c wx∧Below W.heap.size W wx) odR ?hend ?Hk _ _ _ _ (by simp) (by simp) ⟨QAb.start trivial,hE0⟩
 case hend=>
  rintro l c wx ⟨hI,hS⟩ hl
  have hh:∀k,k<7→l.getD k false=true:=fun k hk=>hl k (by rw[Qtu];exact hk)
  exact hQ c wx hI.1.1 (hI.fact 6 15 rfl (hh 6 (by decide))) hS
 intro l c wx mw i' op ho hl Ha K' hK'
 obtain⟨hI,hS⟩:=mw
 have mg:l.size=7:=by rw[hI.1.2.2.1.1,Qtu]
 have hi':i'<7:=by rw[←Qtu];exact(Array.getElem?_eq_some_iff.1 ho).1
 have Hf:=ho
 simp only[Qyi,QXa,Tryz.f16,Option.getD_some,reduceIte,Nat.reduceEqDiff]at ho
 have s2:=(hI.slot 2 (by kernel_rfl)).trans a2
 have s3:=(hI.slot 3 (by kernel_rfl)).trans a3
 have fs:=And.intro True.intro True.intro
 simp only[Array.getD_eq_getD_getElem?]at s2 s3
 have GV:i'=0∨i'=1∨i'=2∨i'=3∨i'=4∨i'=5∨i'=6:=by omega
 clear hi'
 rcases GV with rfl|rfl|rfl|rfl|rfl|rfl|rfl
 all_goals cases ho
 ·have hc:OdC tb ob tv ov m T nm es wx:=⟨hC0.1.keeps (Qaa.of_fresh hS (fun _=>False)) (fun e=>e),hC0.2.1.keeps (Qaa.of_fresh hS (fun _=>False)) (fun e=>e),hC0.2.2.1.new hS,hC0.2.2.2.1.new hS,hC0.2.2.2.2.keeps (Qaa.of_fresh hS (fun _=>False)) (fun e=>e)⟩
  have x0:=hc.1.cell 0
  have x1:=hc.1.cell 1
  have xl:=hc.1.lt
  go_simp
  exact hK' _ _ ⟨hI.step Q4s 0 9 rfl (by rw[hsz];decide) _ _ Hf Ha trivial (fun _ _ h=>h) rfl,hS⟩
 ·have e0:c.tmps.getD 9 undef = .agg #[.string m,tv]:=hI.fact 0 9 rfl (hI.1.2.2.1.2.yes_far 7 Hf Ha (by decide) (by kernel_rfl))
  have f0:=e0
  simp only[Array.getD_eq_getD_getElem?]at e0
  have hc:OdC tb ob tv ov m T nm es wx:=⟨hC0.1.keeps (Qaa.of_fresh hS (fun _=>False)) (fun e=>e),hC0.2.1.keeps (Qaa.of_fresh hS (fun _=>False)) (fun e=>e),hC0.2.2.1.new hS,hC0.2.2.2.1.new hS,hC0.2.2.2.2.keeps (Qaa.of_fresh hS (fun _=>False)) (fun e=>e)⟩
  go_simp
  refine(Q2h m tv T wx hc.2.2.1 hm hy j3 hc.2.2.2.2).mono ?_
  rintro e w2 ⟨rfl,Hc⟩
  exact hK' _ _ ⟨hI.step Q4s 1 10 rfl (by rw[hsz];decide) _ _ Hf Ha trivial (fun _ _ h=>OdF.stable h Hc) rfl,hS.trans (Hc.mono hS.size)⟩
 ·have hc:OdC tb ob tv ov m T nm es wx:=⟨hC0.1.keeps (Qaa.of_fresh hS (fun _=>False)) (fun e=>e),hC0.2.1.keeps (Qaa.of_fresh hS (fun _=>False)) (fun e=>e),hC0.2.2.1.new hS,hC0.2.2.2.1.new hS,hC0.2.2.2.2.keeps (Qaa.of_fresh hS (fun _=>False)) (fun e=>e)⟩
  have x0:=hc.2.1.cell 0
  have x1:=hc.2.1.cell 1
  have xl:=hc.2.1.lt
  go_simp
  exact hK' _ _ ⟨hI.step Q4s 2 11 rfl (by rw[hsz];decide) _ _ Hf Ha trivial (fun _ _ h=>h) rfl,hS⟩
 ·have e2:c.tmps.getD 11 undef = .agg #[.string nm,ov]:=hI.fact 2 11 rfl (hI.1.2.2.1.2.yes_far 7 Hf Ha (by decide) (by kernel_rfl))
  have f2:=e2
  simp only[Array.getD_eq_getD_getElem?]at e2
  have hc:OdC tb ob tv ov m T nm es wx:=⟨hC0.1.keeps (Qaa.of_fresh hS (fun _=>False)) (fun e=>e),hC0.2.1.keeps (Qaa.of_fresh hS (fun _=>False)) (fun e=>e),hC0.2.2.1.new hS,hC0.2.2.2.1.new hS,hC0.2.2.2.2.keeps (Qaa.of_fresh hS (fun _=>False)) (fun e=>e)⟩
  go_simp
  refine(Q2h nm ov es wx hc.2.2.2.1 Hv hz j8 hc.2.2.2.2).mono ?_
  rintro e w2 ⟨rfl,Hc⟩
  exact hK' _ _ ⟨hI.step Q4s 3 12 rfl (by rw[hsz];decide) _ _ Hf Ha trivial (fun _ _ h=>OdF.stable h Hc) rfl,hS.trans (Hc.mono hS.size)⟩
 ·have e1:c.tmps.getD 10 undef = .int .i64 (QCa m T):=hI.fact 1 10 rfl (hI.1.2.2.1.2.yes_far 7 Hf Ha (by decide) (by kernel_rfl))
  have f1:=e1
  simp only[Array.getD_eq_getD_getElem?]at e1
  have e3:c.tmps.getD 12 undef = .int .i64 (QCa nm es):=hI.fact 3 12 rfl (hI.1.2.2.1.2.yes_far 7 Hf Ha (by decide) (by kernel_rfl))
  have f3:=e3
  simp only[Array.getD_eq_getD_getElem?]at e3
  go_simp
  exact hK' _ _ ⟨hI.step Q4s 4 13 rfl (by rw[hsz];decide) _ _ Hf Ha trivial (fun _ _ h=>OdF.stable h ((Below.refl _ _).alloc (Nat.le_refl _) _)) ⟨_,rfl,Holds.new _ _ _⟩,hS.alloc hS.size _⟩
 ·obtain⟨nB,e4,aw⟩:∃nB:Nat,c.tmps.getD 13 undef = .slice (some ⟨nB,0,none⟩) 2 2∧Holds wx nB #[.int .i64 (QCa m T),.int .i64 (QCa nm es)] 33:=hI.fact 4 13 rfl (hI.1.2.2.1.2.yes_far 7 Hf Ha (by decide) (by kernel_rfl))
  have f4:=e4
  simp only[Array.getD_eq_getD_getElem?]at e4
  have hc:OdC tb ob tv ov m T nm es wx:=⟨hC0.1.keeps (Qaa.of_fresh hS (fun _=>False)) (fun e=>e),hC0.2.1.keeps (Qaa.of_fresh hS (fun _=>False)) (fun e=>e),hC0.2.2.1.new hS,hC0.2.2.2.1.new hS,hC0.2.2.2.2.keeps (Qaa.of_fresh hS (fun _=>False)) (fun e=>e)⟩
  go_simp
  refine(QRp (QCa m T) (QCa nm es) nB wx aw).mono ?_
  rintro e w2 ⟨rfl,Hc⟩
  exact hK' _ _ ⟨hI.step Q4s 5 14 rfl (by rw[hsz];decide) _ _ Hf Ha trivial (fun _ _ h=>OdF.stable h Hc) rfl,hS.trans (Hc.mono hS.size)⟩
 ·have e5:c.tmps.getD 14 undef = .int .i64 (if QCa m T=0 then QCa nm es else QCa m T):=hI.fact 5 14 rfl (hI.1.2.2.1.2.yes_far 7 Hf Ha (by decide) (by kernel_rfl))
  have f5:=e5
  simp only[Array.getD_eq_getD_getElem?]at e5
  go_simp
  exact hK' _ _ ⟨hI.step Q4s 6 15 rfl (by rw[hsz];decide) _ _ Hf Ha trivial (fun _ _ h=>h) rfl,hS⟩
theorem QNi{p:Qja→Bool}:∀{T:List Qja} {k:Nat} (hk:k<T.length),(∀i (h:i<T.length),i<k→p T[i]=false)→p T[k]=true→T.find? p=some T[k]
 | [],k,hk,_,_=>absurd hk (Nat.not_lt_zero _)
 | a::r,0,_,_,h=>by rw[List.find?_cons,show p a=true from h];rfl
 | a::r,k+1,hk,hn,h=>by
  rw[List.find?_cons,show p a=false from hn 0 (Nat.zero_lt_succ _) (Nat.zero_lt_succ _)]
  exact QNi (T:=r) (by simpa using hk) (fun i hi bR=>hn (i+1) (by simpa using hi) (by omega)) h
theorem QNs{p:Qja→Bool}{T:List Qja}{k:Nat}(hk:T.length≤k)(hn:∀i (h:i<T.length),i<k→p T[i]=false):T.find? p=none:=by
 rw[List.find?_eq_none]
 intro x hx
 obtain⟨i,hi,rfl⟩:=List.getElem_of_mem hx
 rw[hn i hi (by omega)]
 decide
theorem Q8q(x y:Qja)(cb:Nat)(w:World)(hH:Holds w cb #[.int .i64 x.kind,.string x.path,.string x.name,.string x.value] 39) :
 Calls Tryz.prog 46 #[.agg #[.int .i64 y.kind,.string y.path,.string y.name,.string y.value],.pointer (some ⟨cb,0,none⟩)] w fun e w'=>e = .returned (.bool (Qgb x y))∧Below w.heap.size w w':=by
 have He:Below w.heap.size w (w.alloc (.cells #[.int .i64 y.kind,.string y.path,.string y.name,.string y.value] 39)):=(Below.refl _ _).alloc (Nat.le_refl _) _
 have h1:=hH.alloc (.cells #[.int .i64 y.kind,.string y.path,.string y.name,.string y.value] 39)
 have c0:=hH.cell 0
 have c1:=hH.cell 1
 have c2:=hH.cell 2
 have c3:=hH.cell 3
 have cl:=hH.lt
 have HC:=hid (fun wx=>QJk x y wx)
 generalize Qgb x y=R at *
 clear h1 hH
 go_enter Tryz.func46,Tryz.ntmps46
 go_wp2_with fail
 refine(by exact HC.out _:Calls _ _ _ _ _).mono ?_
 rintro e w1 ⟨rfl,Hb⟩
 go_wp2_with fail
 go_ret
 exact⟨rfl,He.trans (Hb.mono He.size)⟩
theorem Qoj:∀args w,(callFunc 46 args).run Tryz.prog w = .ok (.enter 46 args) w:=enters_of Tryz.func46 (by kernel_rfl) rfl
set_option maxRecDepth 100000 in
theorem Q3h(m:ByteArray)(tv:Value)(T:List Qja)(nm:ByteArray)(ov:Value)(l:List Qja)(w:World)(hT:Qjb w tv T)(hE:Qjb w ov l)(hm:m.size≤maxLen)(Hv:nm.size≤maxLen)(hy:QAe T)(hz:QAe l)(j3:T.length≤1000000)(j8:l.length≤1000000)(lay:Qog w) :
 Calls Tryz.prog 16 #[.agg #[.string m,tv],.agg #[.string nm,ov]] w fun e w'=>e = .returned (.tuple #[.string (Qgc m T nm l).1,.string (Qgc m T nm l).2.1,.bool (Qgc m T nm l).2.2])∧Below w.heap.size w w':=by
 obtain⟨ta,tcap,rfl,uj,Kw⟩:=hT.slice
 obtain⟨oa,ocap,rfl,eZ,Hf⟩:=hE.slice
 have hC:Qgc m T nm l=if QCa m T≠0∨QCa nm l≠0 then(⟨#[]⟩,⟨#[]⟩,false)else match T.find? (fun x=>l.any (Qgb x))with
  | some x=>(x.path,x.name,true)
  | none=>(⟨#[]⟩,⟨#[]⟩,false):=rfl
 generalize Qgc m T nm l=C at *
 obtain⟨W0,GT⟩:∃W0,W0=(w.alloc (.cells #[.string m,.slice ta T.length tcap] 31)).alloc (.cells #[.string nm,.slice oa l.length ocap] 31):=⟨_,rfl⟩
 have He:Below w.heap.size w W0:=by rw[GT];exact((Below.refl _ _).alloc (Nat.le_refl _) _).alloc (by simp) _
 have kJ:Holds W0 w.heap.size #[.string m,.slice ta T.length tcap] 31:=by rw[GT];exact(Holds.new w #[.string m,.slice ta T.length tcap] 31).alloc _
 have J0:Holds W0 (w.heap.size+1) #[.string nm,.slice oa l.length ocap] 31:=by rw[GT];exact Holds.newAt (w:=w.alloc (.cells #[.string m,.slice ta T.length tcap] 31)) (B:=w.heap.size+1) (by simp) #[.string nm,.slice oa l.length ocap] 31
 have HT:=hid hT
 have HE:=hid hE
 have HL:=hid lay
 have HZ:=hid hz
 have HY:=hid hy
 clear hT hE lay hz hy
 go_enter Tryz.func16,Tryz.ntmps16
 go_upto_region 1 with fail
 rw[←GT]
 refine wp_region_any (by kernel_rfl) ?_
 refine Q5a (ops':=Qyi) (by kernel_rfl) ?_
 refine QZn w.heap.size (w.heap.size+1) (.slice ta T.length tcap) (.slice oa l.length ocap) m T nm l W0 _ _ rfl Hv HZ.out j8 hm HY.out j3 rfl rfl ⟨kJ,J0,HT.out.new He,HE.out.new He,HL.out.keeps (Qaa.of_fresh He (fun _=>False)) (fun e=>e)⟩ ((Below.refl _ _).drew) ?_
 intro c w1 Ga lw Hb
 obtain⟨y9,y10,y11,y12,y13,y14,y15,rfl⟩:=Ga.ex [9,10,11,12,13,14,15] (by kernel_rfl)
 simp only[List.setIfInBounds_toArray,List.set_cons_zero,List.set_cons_succ]at lw ⊢
 obtain⟨E,hE⟩:∃E,E=(if QCa m T=0 then QCa nm l else QCa m T):=⟨_,rfl⟩
 have wD:y15 = .bool (E != 0):=by rw[hE];exact lw
 subst wD
 have bF:Below w.heap.size w w1:=He.trans (Hb.mono He.size)
 have H5:=kJ.keeps (Qaa.of_fresh Hb (fun _=>False)) (fun e=>e)
 have gW:=J0.keeps (Qaa.of_fresh Hb (fun _=>False)) (fun e=>e)
 have HJ:=hid bF
 have mr:=hid gW
 have xa:=H5.cell 1
 have xl:=H5.lt
 clear Ga lw Hb bF kJ J0 He H5 gW GT
 by_cases hE0:E=0
 ·have hc:QCa m T=0∧QCa nm l=0:=by
   rw[hE]at hE0
   rcases Decidable.em (QCa m T=0)with h|h
   ·rw[if_pos h]at hE0;exact⟨h,hE0⟩
   ·rw[if_neg h]at hE0;exact absurd hE0 h
  rw[if_neg (by rw[hc.1,hc.2];simp)]at hC
  subst hE0
  have HC:=hid hC
  clear hc hE hC
  go_wp2_with fail
  go_loopg [19] (T.length) (fun f x wr=>∃k:Nat,x = .int .i64 k∧k≤T.length∧T.length≤k+f∧Hid (∀i (h:i<T.length),i<k→l.any (Qgb T[i])=false)∧Hid (Holds wr (w.heap.size+1) #[.string nm,.slice oa l.length ocap] 31)∧Hid (Below w.heap.size w wr))
  case atStart=>exact⟨0,rfl,by omega,by omega,hid (fun i h h2=>absurd h2 (by omega)),mr,HJ⟩
  case round=>
   clear xa xl
   obtain⟨k,rfl,hk,hf,HN,HO,HB⟩:=hrel
   by_cases Hh:k<T.length
   ·have k8:(k:Int)<(T.length:Int):=by omega
    obtain⟨g,o,e1,hg,H7⟩:=Qwc (HT.out.new HB.out) (by omega)
    subst e1
    obtain⟨d0,d1,d2,d3⟩:=H7 k Hh
    have m9:=fun h=>QNi (p:=fun x=>l.any (Qgb x)) Hh HN.out h
    have hW:Below w.heap.size w (wr.alloc (.cells #[.int .i64 T[k].kind,.string T[k].path,.string T[k].name,.string T[k].value] 39)):=HB.out.alloc HB.out.size _
    have hH:=Holds.new wr #[.int .i64 T[k].kind,.string T[k].path,.string T[k].name,.string T[k].value] 39
    have GG:=HO.out.alloc (.cells #[.int .i64 T[k].kind,.string T[k].path,.string T[k].name,.string T[k].value] 39)
    have JM:=hid (Qfd 46 Qoj (Qgb T[k]) wr.heap.size (.slice oa l.length ocap) l (wr.alloc (.cells #[.int .i64 T[k].kind,.string T[k].path,.string T[k].name,.string T[k].value] 39)) (fun y _ wx hb=>Q8q T[k] y wr.heap.size wx (hH.keeps (Qaa.of_fresh hb (fun _=>False)) (fun e=>e))) (HE.out.new hW) (by omega))
    have Km:l.any (Qgb T[k])=true∨l.any (Qgb T[k])=false:=by cases l.any (Qgb T[k]) <;> simp
    have Hk:l.any (Qgb T[k])=false→∀i (h:i<T.length),i<k+1→l.any (Qgb T[i])=false:=by
     intro h i hi bR
     by_cases e:i=k
     ·subst e;exact h
     ·exact HN.out i hi (by omega)
    have B4:=hid m9
    have jS:=hid Hk
    have HW:=hid hW
    have HH:=hid hH
    have jy:=hid GG
    have oc:=HO.out.cell 1
    have ol:=HO.out.lt
    clear H7 m9 Hk hW hH GG
    generalize l.any (Qgb T[k])=q at *
    generalize T[k]=x at *
    rcases Km with rfl|rfl
    ·have Hn:=hid (HC.out.trans (by rw[B4.out (by first|rfl|trivial)]))
     go_wp2_with fail
     refine(by exact JM.out:Calls _ _ _ _ _).mono ?_
     rintro e w3 ⟨rfl,Hi⟩
     have kh:=HH.out.keeps (Qaa.of_fresh Hi (fun _=>False)) (fun e=>e)
     have x1:=kh.cell 1
     have x2:=kh.cell 2
     have xl:=kh.lt
     have KK:=hid (HW.out.trans (Hi.mono HW.out.size))
     clear kh Hi oc ol d0 d1 d2 d3
     go_wp2_with fail
     go_quiet (fail)
     go_wp2_with fail
     go_ret3
     exact⟨by rw[Hn.out];rfl,KK.out.trans (Qaa.below (S:=fun _=>False) ((Qaa.refl _ _).drewN _) KK.out.size (fun _ _ e=>e))⟩
    ·go_wp2_with fail
     refine(by exact JM.out:Calls _ _ _ _ _).mono ?_
     rintro e w3 ⟨rfl,Hi⟩
     have fI:=hid (jy.out.keeps (Qaa.of_fresh Hi (fun _=>False)) (fun e=>e))
     have KK:=hid (HW.out.trans (Hi.mono HW.out.size))
     clear Hi oc ol d0 d1 d2 d3
     go_wp2_with fail
     go_roundg (gk-1)
     case measure=>omega
     case rel=>exact⟨k+1,by go_num,by omega,by omega,hid (jS.out (by first|rfl|trivial)),fI,KK⟩
   ·have k8:¬(k:Int)<(T.length:Int):=by omega
    have Hn:=hid (HC.out.trans (by rw[QNs (p:=fun x=>l.any (Qgb x)) (show T.length≤k by omega) HN.out]))
    go_wp2_with fail
    go_ret3
    exact⟨by rw[Hn.out];rfl,HB.out⟩
 ·have dP:(E != 0)=true:=by simpa using hE0
  have Hm:QCa m T≠0∨QCa nm l≠0:=by
   rcases Decidable.em (QCa m T=0)with h|h
   ·rw[if_pos h]at hE;exact .inr (by rw[←hE];exact hE0)
   ·exact .inl h
  have Hn:=hid (hC.trans (if_pos Hm))
  clear hC hE Hm hE0
  go_wp2_with fail
  go_ret3
  exact⟨by rw[Hn.out];rfl,HJ.out⟩
end Go.Proofs.YtgaboghigefgbaaGreatDoor
