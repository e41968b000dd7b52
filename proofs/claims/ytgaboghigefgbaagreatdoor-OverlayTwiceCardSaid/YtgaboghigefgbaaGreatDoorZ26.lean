/- overlay: path, Or, compare, clash, valid. | overlay: region 1 of compare (printed by govc.py). -/
import Derived.Test.YtgaboghigefgbaaGreatDoorZ24
import Derived.Test.YtgaboghigefgbaaGreatDoorZ25
import Derived.Test.YtgaboghigefgbaaGreatDoorZ14
import Derived.Deep.RegionHeld3
import Derived.Deep.LoopGhost
import Derived.Test.YtgaboghigefgbaaGreatDoorZ13
import Derived.Test.YtgaboghigefgbaaGreatDoorZ2
import Derived.IntWalk
set_option linter.all false
set_option maxHeartbeats 8000000
namespace Go.Proofs.YtgaboghigefgbaaGreatDoor
open Go.Lib (hid)
open Go.RowKit
theorem Qbo:QPe ⟨#[47]⟩=true:=by decide
theorem QBr{s:ByteArray}(h:Lib.hasPrefix s.data.toList [47]=false):QPe s=false:=by
 unfold QPe
 cases hs:s.data.toList with
 | nil=>rfl
 | cons c r=>
  rw[hs]at h
  have:c≠47:=fun e=>by subst e;simp[Lib.hasPrefix]at h
  simp[this]
theorem QZp{s:ByteArray}(h:Lib.hasPrefix s.data.toList [47]=true)(hn:eqS s ⟨#[47]⟩=false):QPe s=(Qcc (Lib.trimPrefix s.data.toList [47])).all Q0a∧∃r,s.data.toList=47::r∧Lib.trimPrefix s.data.toList [47]=r:=by
 cases hs:s.data.toList with
 | nil=>rw[hs]at h;simp[Lib.hasPrefix]at h
 | cons c r=>
  rw[hs]at h
  have hc:47=c:=by simpa[Lib.hasPrefix]using h
  subst hc
  have ht:Lib.trimPrefix (47::r) [47]=r:=by simp[Lib.trimPrefix,Lib.hasPrefix]
  have hr:r≠[]:=fun e=>by
   subst e
   have:s=⟨#[47]⟩:=ByteArray.ext (Array.toList_inj.1 hs)
   rw[(Qxa _ _).2 this]at hn
   cases hn
  refine⟨?_,r,rfl,ht⟩
  rw[ht]
  unfold QPe
  rw[hs]
  cases r with
  | nil=>exact absurd rfl hr
  | cons a q=>simp
theorem Qaf:∀(l x:List UInt8),x∈Qcc l→x.length≤l.length
 | [],x,h=>by simp only[Qcc,List.mem_singleton]at h;subst h;exact Nat.le_refl _
 | c::r,x,h=>by
  rw[Qcc]at h
  split at h
  ·rcases List.mem_cons.1 h with rfl|h
   ·simp
   ·have:=Qaf r x h;simp only[List.length_cons];omega
  ·cases hs:Qcc r with
   | nil=>
    rw[hs]at h
    simp only[List.mem_singleton]at h
    subst h;simp
   | cons s t=>
    rw[hs]at h
    rcases List.mem_cons.1 h with rfl|h
    ·have:=Qaf r s (by rw[hs];exact List.mem_cons_self)
     simp only[List.length_cons];omega
    ·have:=Qaf r x (by rw[hs];exact List.mem_cons_of_mem _ h)
     simp only[List.length_cons];omega
theorem Q2i:∀l:List UInt8,(Qcc l).length≤l.length+1
 | []=>Nat.le_refl _
 | c::r=>by
  have ih:=Q2i r
  rw[Qcc]
  split
  ·simp only[List.length_cons];omega
  ·cases hs:Qcc r with
   | nil=>simp
   | cons s t=>rw[hs]at ih;simp only[List.length_cons]at ih ⊢;omega
theorem Qzr(s:ByteArray)(w:World)(hs:s.size<4294967281)(lay:Qog w) :
 Calls Tryz.prog 96 #[.string s] w fun e w'=>e = .returned (.bool (QPe s))∧Below w.heap.size w w':=by
 have oA:=hid (fun wx=>Tryz.strings_CutPrefix s ⟨#[47]⟩ wx)
 by_cases hr:eqS s ⟨#[47]⟩=true
 ·obtain rfl:=(Qxa _ _).1 hr
  have hx:Lib.hasPrefix (⟨#[47]⟩:ByteArray).data.toList (⟨#[47]⟩:ByteArray).data.toList=true:=by decide
  rw[hx]at oA
  have hP:=hid Qbo
  generalize Lib.trimPrefix (⟨#[47]⟩:ByteArray).data.toList (⟨#[47]⟩:ByteArray).data.toList=tp at *
  clear hr hx hs lay
  go_enter Tryz.func96,Tryz.ntmps96
  go_wp2_with fail
  refine(oA.out w).mono ?_
  rintro e w1 ⟨rfl,rfl⟩
  go_wp2_with fail
  go_ret
  exact⟨by rw[hP.out];rfl,Below.refl _ _⟩
 ·have hr':eqS s ⟨#[47]⟩=false:=by simpa using hr
  have ko:(s.toList == [47])=false:=by
   have h:=hr'
   unfold eqS at h
   rw[ByteArray.toList_eq ⟨#[47]⟩]at h
   exact h
  cases hp:Lib.hasPrefix s.data.toList [47]with
  | false=>
   have hP:=hid (QBr hp)
   rw[show(⟨#[47]⟩:ByteArray).data.toList=[47]from rfl,hp]at oA
   clear hr hr' hp
   go_enter Tryz.func96,Tryz.ntmps96
   go_wp2_with fail
   refine(oA.out w).mono ?_
   rintro e w1 ⟨rfl,rfl⟩
   go_wp2_with fail
   go_ret
   exact⟨by rw[hP.out];rfl,Below.refl _ _⟩
  | true=>
   obtain⟨KC,r,zx,mq⟩:=QZp hp hr'
   rw[mq]at KC
   rw[show(⟨#[47]⟩:ByteArray).data.toList=[47]from rfl,hp,mq]at oA
   obtain⟨m,hm⟩:=lay
   have jq:r.length<4294967281:=by have:s.size=r.length+1:=by have:=congrArg List.length zx;simpa using this
                                   omega
   obtain⟨L,hL⟩:∃L,L=Lib.splitB ⟨#[47]⟩ 0 (Lib.countB ⟨r.toArray⟩ ⟨#[47]⟩) ⟨r.toArray⟩:=⟨_,rfl⟩
   have uK:L.length=Lib.countB ⟨r.toArray⟩ ⟨#[47]⟩+1:=by rw[hL];exact Lib.splitB_all _ (by decide) 0 _ _ rfl
   have uJ:L.map (·.data.toList)=Qcc r:=by
    rw[hL,Lib.splitB_data]
    exact Qdn r.length r (Nat.le_refl _)
   have qE:=hid (Tryz.strings_Split ⟨r.toArray⟩ ⟨#[47]⟩ m w (by simpa[ByteArray.size]using jq) hm (by decide))
   rw[←hL,←uK]at qE
   have JM:=hid (QIg 135 Qhk (fun x=>!Q0a x.data.toList) L (w.alloc (.cells (L.map Value.string).toArray 9)) w.heap.size L.length (fun x hx wx=>QUp x wx (by
    have jw:=Qaf _ _ (show x.data.toList∈Qcc r by rw[←uJ];exact List.mem_map_of_mem hx)
    have:x.size=x.data.toList.length:=by simp
    unfold maxLen;omega)) (Holds.new w _ _) (by
    have h1:=Q2i r
    have h2:=congrArg List.length uJ
    rw[List.length_map]at h2
    omega))
   have hA:=hid (show QPe s = !(L.any fun x=>!Q0a x.data.toList)from by
    rw[KC,←uJ,List.all_map,List.not_any_eq_all_not]
    simp
    rfl)
   have hb:=(Below.refl w.heap.size w).alloc (Nat.le_refl _) (.cells (L.map Value.string).toArray 9)
   have HB:=hid hb
   generalize L.any (fun x=>!Q0a x.data.toList)=q at *
   clear hL uK uJ KC hb
   go_enter Tryz.func96,Tryz.ntmps96
   go_wp2_with fail
   refine(oA.out w).mono ?_
   rintro e w1 ⟨rfl,rfl⟩
   go_wp2_with fail
   refine(by exact qE.out:Calls _ _ _ _ _).mono ?_
   rintro e w1 ⟨rfl,rfl⟩
   go_wp2_with fail
   refine(by exact JM.out:Calls _ _ _ _ _).mono ?_
   rintro e w1 ⟨rfl,rfl⟩
   go_wp2_with fail
   go_ret
   exact⟨by rw[hA.out];rfl,HB.out⟩
theorem Q5s(a b:Int)(g:Nat)(w:World)(h:Holds w g #[.int .i64 a,.int .i64 b] 3) :
 Calls Tryz.prog 98 #[.slice (some ⟨g,0,none⟩) 2 2] w fun e w'=>e = .returned (.int .i64 (if a=0 then b else a))∧Below w.heap.size w w':=by
 have c0:=h.cell 0
 have c1:=h.cell 1
 have gl:=h.lt
 clear h
 go_enter Tryz.func98,Tryz.ntmps98
 go_wp2_with fail
 go_loopg [8] 2 (fun f x wr=>∃k:Nat,k≤2∧2≤k+f∧x = .int .i64 k∧w=wr∧Hid (0<k→a=0)∧Hid (1<k→b=0))
 case atStart=>exact⟨0,by omega,by omega,rfl,rfl,hid (fun h=>by omega),hid (fun h=>by omega)⟩
 case round=>
  obtain⟨k,hk,hf,rfl,rfl,H0,H1⟩:=hrel
  have Hy:k=0∨k=1∨k=2:=by omega
  rcases Hy with rfl|rfl|rfl
  ·by_cases h0:a=0
   ·have He:(a != 0)=false:=by simpa using h0
    have HA:=hid h0
    clear h0
    go_wp2_with fail
    go_roundg 1
    case measure=>omega
    case rel=>exact⟨1,by omega,by omega,rfl,rfl,hid (fun _=>HA.out),hid (fun h=>by omega)⟩
   ·have He:(a != 0)=true:=by simpa using h0
    have HA:=hid h0
    clear h0
    go_wp2_with fail
    go_ret
    exact⟨by first|rfl | (rw[if_neg HA.out];rfl),Below.refl _ _⟩
  ·have HA:=hid (H0.out (by omega))
   by_cases h0:b=0
   ·have He:(b != 0)=false:=by simpa using h0
    have HB:=hid h0
    clear h0
    go_wp2_with fail
    go_roundg 0
    case measure=>omega
    case rel=>exact⟨2,by omega,by omega,rfl,rfl,hid (fun _=>HA.out),hid (fun _=>HB.out)⟩
   ·have He:(b != 0)=true:=by simpa using h0
    clear h0
    go_wp2_with fail
    go_ret
    exact⟨by first|rfl | (rw[if_pos HA.out];rfl),Below.refl _ _⟩
  ·have HA:=hid (H0.out (by omega))
   have HB:=hid (H1.out (by omega))
   go_wp2_with fail
   go_ret
   exact⟨by first|rfl | (rw[HB.out];rfl) | (rw[if_pos HA.out,HB.out];rfl),Below.refl _ _⟩
theorem QRp(a b:Int)(g:Nat)(w:World)(h:Holds w g #[.int .i64 a,.int .i64 b] 33) :
 Calls Tryz.prog 36 #[.slice (some ⟨g,0,none⟩) 2 2] w fun e w'=>e = .returned (.int .i64 (if a=0 then b else a))∧Below w.heap.size w w':=by
 have c0:=h.cell 0
 have c1:=h.cell 1
 have gl:=h.lt
 clear h
 go_enter Tryz.func36,Tryz.ntmps36
 go_wp2_with fail
 go_loopg [8] 2 (fun f x wr=>∃k:Nat,k≤2∧2≤k+f∧x = .int .i64 k∧w=wr∧Hid (0<k→a=0)∧Hid (1<k→b=0))
 case atStart=>exact⟨0,by omega,by omega,rfl,rfl,hid (fun h=>by omega),hid (fun h=>by omega)⟩
 case round=>
  obtain⟨k,hk,hf,rfl,rfl,H0,H1⟩:=hrel
  have Hy:k=0∨k=1∨k=2:=by omega
  rcases Hy with rfl|rfl|rfl
  ·by_cases h0:a=0
   ·have He:(a != 0)=false:=by simpa using h0
    have HA:=hid h0
    clear h0
    go_wp2_with fail
    go_roundg 1
    case measure=>omega
    case rel=>exact⟨1,by omega,by omega,rfl,rfl,hid (fun _=>HA.out),hid (fun h=>by omega)⟩
   ·have He:(a != 0)=true:=by simpa using h0
    have HA:=hid h0
    clear h0
    go_wp2_with fail
    go_ret
    exact⟨by first|rfl | (rw[if_neg HA.out];rfl),Below.refl _ _⟩
  ·have HA:=hid (H0.out (by omega))
   by_cases h0:b=0
   ·have He:(b != 0)=false:=by simpa using h0
    have HB:=hid h0
    clear h0
    go_wp2_with fail
    go_roundg 0
    case measure=>omega
    case rel=>exact⟨2,by omega,by omega,rfl,rfl,hid (fun _=>HA.out),hid (fun _=>HB.out)⟩
   ·have He:(b != 0)=true:=by simpa using h0
    clear h0
    go_wp2_with fail
    go_ret
    exact⟨by first|rfl | (rw[if_pos HA.out];rfl),Below.refl _ _⟩
  ·have HA:=hid (H0.out (by omega))
   have HB:=hid (H1.out (by omega))
   go_wp2_with fail
   go_ret
   exact⟨by first|rfl | (rw[HB.out];rfl) | (rw[if_pos HA.out,HB.out];rfl),Below.refl _ _⟩
noncomputable def Q6d:Array Oper:=(QXa (Tryz.f53.body.getD .skip) 1).getD #[]
theorem ocR:Qjc .any Q6d=true:=by kernel_rfl
theorem QXn:Qbc Q6d=true:=by kernel_rfl
theorem Qsu:Q6d.size=13:=by kernel_rfl
def OcF(ga gb:Nat)(a b:Qja)(nB:Nat)(j:Nat):Value→World→Prop:=match j with
 | 0=>fun u _=>u = .pointer (some ⟨ga,1,none⟩)
 | 1=>fun u _=>u = .string a.path
 | 2=>fun u _=>u = .pointer (some ⟨gb,1,none⟩)
 | 3=>fun u _=>u = .string b.path
 | 4=>fun u _=>u = .int .i64 (Qdc a.path b.path)
 | 5=>fun u _=>u = .pointer (some ⟨ga,2,none⟩)
 | 6=>fun u _=>u = .string a.name
 | 7=>fun u _=>u = .pointer (some ⟨gb,2,none⟩)
 | 8=>fun u _=>u = .string b.name
 | 9=>fun u _=>u = .int .i64 (Qdc a.name b.name)
 | 10=>fun u _=>u = .slice (some ⟨nB,0,none⟩) 2 2
 | 11=>fun u _=>u = .int .i64 (if Qdc a.path b.path=0 then Qdc a.name b.name else Qdc a.path b.path)
 | 12=>fun u _=>u = .int .i64 (if Qdc a.path b.path=0 then Qdc a.name b.name else Qdc a.path b.path)
 | _=>fun _ _=>True
def OcC(ga gb:Nat)(a b:Qja)(_ w:World):Prop:=Holds w ga #[.int .i64 a.kind,.string a.path,.string a.name,.string a.value] 39∧Holds w gb #[.int .i64 b.kind,.string b.path,.string b.name,.string b.value] 39
def OcE(_ _:Nat)(a b:Qja)(nB:Nat)(W w:World)(l:Array Bool):Prop:=
 if l.getD 10 false=false then(Below W.heap.size W w)else
 if l.getD 11 false=false then(Below W.heap.size W w∧Holds w nB #[.int .i64 (Qdc a.path b.path),.int .i64 (Qdc a.name b.name)] 3)else
 Below W.heap.size W w
section
variable{ga gb:Nat}{a b:Qja}{nB:Nat}{W w:World}{l:Array Bool}
theorem OcE.other{j:Nat}(h:OcE ga gb a b nB W w l)(n0:j≠10)(n1:j≠11):OcE ga gb a b nB W w (l.setIfInBounds j true):=by
 unfold OcE at h ⊢
 rw[Qdb n0,Qdb n1]
 exact h
theorem OcE.at0(h:OcE ga gb a b nB W w l)(no:l.getD 10 false=false):Below W.heap.size W w:=by
 unfold OcE at h
 rw[no,if_pos rfl]at h
 exact h
theorem OcE.to0(hs:10<l.size)(no:l.getD 11 false=false)(h:Below W.heap.size W w∧Holds w nB #[.int .i64 (Qdc a.path b.path),.int .i64 (Qdc a.name b.name)] 3):OcE ga gb a b nB W w (l.setIfInBounds 10 true):=by
 unfold OcE
 rw[Q9b hs,if_neg (by simp)]
 rw[Qdb (show 10≠11 by decide),no,if_pos rfl]
 exact h
theorem OcE.at1(h:OcE ga gb a b nB W w l)(y0:l.getD 10 false=true)(no:l.getD 11 false=false):Below W.heap.size W w∧Holds w nB #[.int .i64 (Qdc a.path b.path),.int .i64 (Qdc a.name b.name)] 3:=by
 unfold OcE at h
 rw[y0,if_neg (by simp)]at h
 rw[no,if_pos rfl]at h
 exact h
theorem OcE.to1(y0:l.getD 10 false=true)(hs:11<l.size)(h:Below W.heap.size W w):OcE ga gb a b nB W w (l.setIfInBounds 11 true):=by
 unfold OcE
 rw[Qdb (show 11≠10 by decide),y0,if_neg (by simp)]
 rw[Q9b hs,if_neg (by simp)]
 exact h
theorem OcF.ghost0{nB':Nat}{j:Nat}{u:Value}(h:OcF ga gb a b nB j u w)(n0:j≠10):OcF ga gb a b nB' j u w:=by
 unfold OcF at *
 split at h
 all_goals first
  | exact h
  | exact absurd rfl n0
theorem OcF.world{j:Nat}{u:Value}{w':World}(h:OcF ga gb a b nB j u w):OcF ga gb a b nB j u w':=by
 unfold OcF at *
 split at h
 all_goals exact h
end
set_option maxRecDepth 100000 in
theorem QYn{Q:Exit→Act→World→Prop}(ga gb:Nat)(a b:Qja)(W w:World)(A:Act)(hsz:A.tmps.size=17)
 (a2:A.tmps.getD 2 undef = .pointer (some ⟨ga,0,none⟩)) (a3:A.tmps.getD 3 undef = .pointer (some ⟨gb,0,none⟩)) (hC0:OcC ga gb a b W w) (hE0:Below W.heap.size W w)
 (hQ:∀c w' (nB:Nat),Qrb Q6d A c→c.tmps.getD 4 undef = .int .i64 (if Qdc a.path b.path=0 then Qdc a.name b.name else Qdc a.path b.path)→(Below W.heap.size W w')→Q .normal c w') :
 wpAny Tryz.prog .any Q6d Q Q6d.size (Array.replicate Q6d.size false) A w:=by
 refine QVa (fun l c wx=>∃nB,QAb Q6d A (OcF ga gb a b nB) (fun _=>True) l c wx∧(l.getD 11 false=false→OcC ga gb a b W wx)∧OcE ga gb a b nB W wx l) ocR ?hend ?Hk _ _ _ _ (by simp) (by simp) ⟨0,QAb.start trivial,fun _=>hC0,by unfold OcE;rw[if_pos (QXk _ _)];exact hE0⟩
 case hend=>
  rintro l c wx ⟨nB,hI,hC,hE⟩ hl
  have hh:∀k,k<13→l.getD k false=true:=fun k hk=>hl k (by rw[Qsu];exact hk)
  have lL:Below W.heap.size W wx:=by
   unfold OcE at hE
   rw[hh 10 (by decide),if_neg (by simp)]at hE
   rw[hh 11 (by decide),if_neg (by simp)]at hE
   exact hE
  exact hQ c wx nB hI.1.1 (hI.fact 12 4 rfl (hh 12 (by decide))) lL
 intro l c wx mw i' op ho hl Ha K' hK'
 obtain⟨nB,hI,hC,hE⟩:=mw
 have mg:l.size=13:=by rw[hI.1.2.2.1.1,Qsu]
 have hi':i'<13:=by rw[←Qsu];exact(Array.getElem?_eq_some_iff.1 ho).1
 have Hf:=ho
 simp only[Q6d,QXa,Tryz.f53,Option.getD_some,reduceIte,Nat.reduceEqDiff]at ho
 have s2:=(hI.slot 2 (by kernel_rfl)).trans a2
 have s3:=(hI.slot 3 (by kernel_rfl)).trans a3
 have fs:=And.intro True.intro True.intro
 simp only[Array.getD_eq_getD_getElem?]at s2 s3
 have GV:i'=0∨i'=1∨i'=2∨i'=3∨i'=4∨i'=5∨i'=6∨i'=7∨i'=8∨i'=9∨i'=10∨i'=11∨i'=12:=by omega
 clear hi'
 rcases GV with rfl|rfl|rfl|rfl|rfl|rfl|rfl|rfl|rfl|rfl|rfl|rfl|rfl
 all_goals cases ho
 ·go_simp
  exact hK' _ _ ⟨nB,hI.step QXn 0 5 rfl (by rw[hsz];decide) _ _ Hf Ha trivial (fun _ _ h=>h) rfl,(fun h=>hC (Qia h)),hE.other (by decide) (by decide)⟩
 ·have e0:c.tmps.getD 5 undef = .pointer (some ⟨ga,1,none⟩):=hI.fact 0 5 rfl (hI.1.2.2.1.2.yes_far 13 Hf Ha (by decide) (by kernel_rfl))
  have f0:=e0
  simp only[Array.getD_eq_getD_getElem?]at e0
  have hc:=hC (hI.1.2.2.1.2.no_far 13 hl (by kernel_rfl:QZd Q6d 13 11 1=true))
  have x0:=hc.1.cell 1
  have xl:=hc.1.lt
  go_simp
  exact hK' _ _ ⟨nB,hI.step QXn 1 6 rfl (by rw[hsz];decide) _ _ Hf Ha trivial (fun _ _ h=>h) rfl,(fun h=>hC (Qia h)),hE.other (by decide) (by decide)⟩
 ·go_simp
  exact hK' _ _ ⟨nB,hI.step QXn 2 7 rfl (by rw[hsz];decide) _ _ Hf Ha trivial (fun _ _ h=>h) rfl,(fun h=>hC (Qia h)),hE.other (by decide) (by decide)⟩
 ·have e2:c.tmps.getD 7 undef = .pointer (some ⟨gb,1,none⟩):=hI.fact 2 7 rfl (hI.1.2.2.1.2.yes_far 13 Hf Ha (by decide) (by kernel_rfl))
  have f2:=e2
  simp only[Array.getD_eq_getD_getElem?]at e2
  have hc:=hC (hI.1.2.2.1.2.no_far 13 hl (by kernel_rfl:QZd Q6d 13 11 3=true))
  have x0:=hc.2.cell 1
  have xl:=hc.2.lt
  go_simp
  exact hK' _ _ ⟨nB,hI.step QXn 3 8 rfl (by rw[hsz];decide) _ _ Hf Ha trivial (fun _ _ h=>h) rfl,(fun h=>hC (Qia h)),hE.other (by decide) (by decide)⟩
 ·have e1:c.tmps.getD 6 undef = .string a.path:=hI.fact 1 6 rfl (hI.1.2.2.1.2.yes_far 13 Hf Ha (by decide) (by kernel_rfl))
  have f1:=e1
  simp only[Array.getD_eq_getD_getElem?]at e1
  have e3:c.tmps.getD 8 undef = .string b.path:=hI.fact 3 8 rfl (hI.1.2.2.1.2.yes_far 13 Hf Ha (by decide) (by kernel_rfl))
  have f3:=e3
  simp only[Array.getD_eq_getD_getElem?]at e3
  have hc:=hC (hI.1.2.2.1.2.no_far 13 hl (by kernel_rfl:QZd Q6d 13 11 4=true))
  go_simp
  refine(Qfe a.path b.path wx).mono ?_
  rintro e w2 ⟨rfl,rfl⟩
  go_simp
  exact hK' _ _ ⟨nB,hI.step QXn 4 9 rfl (by rw[hsz];decide) _ _ Hf Ha trivial (fun _ _ h=>h) rfl,(fun h=>hC (Qia h)),hE.other (by decide) (by decide)⟩
 ·go_simp
  exact hK' _ _ ⟨nB,hI.step QXn 5 10 rfl (by rw[hsz];decide) _ _ Hf Ha trivial (fun _ _ h=>h) rfl,(fun h=>hC (Qia h)),hE.other (by decide) (by decide)⟩
 ·have e5:c.tmps.getD 10 undef = .pointer (some ⟨ga,2,none⟩):=hI.fact 5 10 rfl (hI.1.2.2.1.2.yes_far 13 Hf Ha (by decide) (by kernel_rfl))
  have f5:=e5
  simp only[Array.getD_eq_getD_getElem?]at e5
  have hc:=hC (hI.1.2.2.1.2.no_far 13 hl (by kernel_rfl:QZd Q6d 13 11 6=true))
  have x0:=hc.1.cell 2
  have xl:=hc.1.lt
  go_simp
  exact hK' _ _ ⟨nB,hI.step QXn 6 11 rfl (by rw[hsz];decide) _ _ Hf Ha trivial (fun _ _ h=>h) rfl,(fun h=>hC (Qia h)),hE.other (by decide) (by decide)⟩
 ·go_simp
  exact hK' _ _ ⟨nB,hI.step QXn 7 12 rfl (by rw[hsz];decide) _ _ Hf Ha trivial (fun _ _ h=>h) rfl,(fun h=>hC (Qia h)),hE.other (by decide) (by decide)⟩
 ·have e7:c.tmps.getD 12 undef = .pointer (some ⟨gb,2,none⟩):=hI.fact 7 12 rfl (hI.1.2.2.1.2.yes_far 13 Hf Ha (by decide) (by kernel_rfl))
  have f7:=e7
  simp only[Array.getD_eq_getD_getElem?]at e7
  have hc:=hC (hI.1.2.2.1.2.no_far 13 hl (by kernel_rfl:QZd Q6d 13 11 8=true))
  have x0:=hc.2.cell 2
  have xl:=hc.2.lt
  go_simp
  exact hK' _ _ ⟨nB,hI.step QXn 8 13 rfl (by rw[hsz];decide) _ _ Hf Ha trivial (fun _ _ h=>h) rfl,(fun h=>hC (Qia h)),hE.other (by decide) (by decide)⟩
 ·have e6:c.tmps.getD 11 undef = .string a.name:=hI.fact 6 11 rfl (hI.1.2.2.1.2.yes_far 13 Hf Ha (by decide) (by kernel_rfl))
  have f6:=e6
  simp only[Array.getD_eq_getD_getElem?]at e6
  have e8:c.tmps.getD 13 undef = .string b.name:=hI.fact 8 13 rfl (hI.1.2.2.1.2.yes_far 13 Hf Ha (by decide) (by kernel_rfl))
  have f8:=e8
  simp only[Array.getD_eq_getD_getElem?]at e8
  have hc:=hC (hI.1.2.2.1.2.no_far 13 hl (by kernel_rfl:QZd Q6d 13 11 9=true))
  go_simp
  refine(Qfe a.name b.name wx).mono ?_
  rintro e w2 ⟨rfl,rfl⟩
  go_simp
  exact hK' _ _ ⟨nB,hI.step QXn 9 14 rfl (by rw[hsz];decide) _ _ Hf Ha trivial (fun _ _ h=>h) rfl,(fun h=>hC (Qia h)),hE.other (by decide) (by decide)⟩
 ·have e4:c.tmps.getD 9 undef = .int .i64 (Qdc a.path b.path):=hI.fact 4 9 rfl (hI.1.2.2.1.2.yes_far 13 Hf Ha (by decide) (by kernel_rfl))
  have f4:=e4
  simp only[Array.getD_eq_getD_getElem?]at e4
  have e9:c.tmps.getD 14 undef = .int .i64 (Qdc a.name b.name):=hI.fact 9 14 rfl (hI.1.2.2.1.2.yes_far 13 Hf Ha (by decide) (by kernel_rfl))
  have f9:=e9
  simp only[Array.getD_eq_getD_getElem?]at e9
  have hc:=hC (hI.1.2.2.1.2.no_far 13 hl (by kernel_rfl:QZd Q6d 13 11 10=true))
  have hp:=hE.at0 hl
  have un:=hI.1.2.2.1.2.no_far 13 hl (by kernel_rfl:QZd Q6d 13 11 10=true)
  have mE:Below W.heap.size W (wx.alloc (.cells #[.int .i64 (Qdc a.path b.path),.int .i64 (Qdc a.name b.name)] 3))∧Holds (wx.alloc (.cells #[.int .i64 (Qdc a.path b.path),.int .i64 (Qdc a.name b.name)] 3)) wx.heap.size #[.int .i64 (Qdc a.path b.path),.int .i64 (Qdc a.name b.name)] 3:=⟨hp.alloc hp.size _,Holds.new _ _ _⟩
  have gB:OcC ga gb a b W (wx.alloc (.cells #[.int .i64 (Qdc a.path b.path),.int .i64 (Qdc a.name b.name)] 3)):=⟨hc.1.alloc _,hc.2.alloc _⟩
  go_simp
  have hJ:QAb Q6d A (OcF ga gb a b (wx.heap.size)) (fun _=>True) l c wx:=⟨hI.1.other (fun j hj u hF=>OcF.ghost0 hF (Qbb hj hl)),hI.2⟩
  exact hK' _ _ ⟨wx.heap.size,hJ.step QXn 10 15 rfl (by rw[hsz];decide) _ _ Hf Ha trivial (fun _ _ h=>OcF.world h) rfl,fun _=>gB,OcE.to0 (by rw[mg];decide) un mE⟩
 ·have e10:c.tmps.getD 15 undef = .slice (some ⟨nB,0,none⟩) 2 2:=hI.fact 10 15 rfl (hI.1.2.2.1.2.yes_far 13 Hf Ha (by decide) (by kernel_rfl))
  have f10:=e10
  simp only[Array.getD_eq_getD_getElem?]at e10
  have hc:=hC (hI.1.2.2.1.2.no_far 13 hl (by kernel_rfl:QZd Q6d 13 11 11=true))
  have y0:l.getD 10 false=true:=hI.1.2.2.1.2.yes_far 13 Hf Ha (by decide) (by kernel_rfl)
  have hp:=hE.at1 y0 hl
  obtain⟨ME,tL⟩:=hp
  go_simp
  refine(Q5s (Qdc a.path b.path) (Qdc a.name b.name) nB wx tL).mono ?_
  rintro e w2 ⟨rfl,Hc⟩
  have mE:Below W.heap.size W w2:=ME.trans (Hc.mono ME.size)
  have gB:OcC ga gb a b W w2:=⟨hc.1.keeps (Qaa.of_fresh Hc (fun _=>False)) (fun e=>e),hc.2.keeps (Qaa.of_fresh Hc (fun _=>False)) (fun e=>e)⟩
  exact hK' _ _ ⟨_,hI.step QXn 11 16 rfl (by rw[hsz];decide) _ _ Hf Ha trivial (fun _ _ h=>OcF.world h) rfl,fun h=>absurd h (by rw[Q9b (by rw[mg];decide)];simp),OcE.to1 y0 (by rw[mg];decide) mE⟩
 ·have e11:c.tmps.getD 16 undef = .int .i64 (if Qdc a.path b.path=0 then Qdc a.name b.name else Qdc a.path b.path):=hI.fact 11 16 rfl (hI.1.2.2.1.2.yes_far 13 Hf Ha (by decide) (by kernel_rfl))
  have f11:=e11
  simp only[Array.getD_eq_getD_getElem?]at e11
  go_simp
  exact hK' _ _ ⟨nB,hI.step QXn 12 4 rfl (by rw[hsz];decide) _ _ Hf Ha trivial (fun _ _ h=>h) rfl,(fun h=>hC (Qia h)),hE.other (by decide) (by decide)⟩
end Go.Proofs.YtgaboghigefgbaaGreatDoor
