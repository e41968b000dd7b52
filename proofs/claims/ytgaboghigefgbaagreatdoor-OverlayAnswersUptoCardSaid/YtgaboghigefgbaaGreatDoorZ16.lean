/- Lemmas on the way to the law; no conditions. -/
import Derived.Test.YtgaboghigefgbaaGreatDoorZ13
import Derived.Test.YtgaboghigefgbaaGreatDoorZ15
import Derived.Deep.RegionHeld3
set_option linter.all false
set_option maxRecDepth 100000
set_option maxHeartbeats 8000000
namespace Go.Proofs.YtgaboghigefgbaaGreatDoor
open Go.Proofs.Tryz
open Go.Lib (hid)
open Go.RowKit
theorem Q3i:Qpc ⟨#[47]⟩=true:=by decide
theorem Q6r{s:ByteArray}(h:Lib.hasPrefix s.data.toList [47]=false):Qpc s=false:=by
 unfold Qpc;cases hs:s.data.toList with
 | nil=>rfl
 | cons c r=>
  rw[hs]at h;have:c≠47:=fun e=>by subst e;simp[Lib.hasPrefix]at h
  simp[this]
theorem Qkq{s:ByteArray}(h:Lib.hasPrefix s.data.toList [47]=true)(hn:eqS s ⟨#[47]⟩=false):Qpc s=(Qvb (Lib.trimPrefix s.data.toList [47])).all QTa∧∃r,s.data.toList=47::r∧Lib.trimPrefix s.data.toList [47]=r:=by
 cases hs:s.data.toList with
 | nil=>rw[hs]at h;simp[Lib.hasPrefix]at h
 | cons c r=>
  rw[hs]at h;have hc:47=c:=by simpa[Lib.hasPrefix]using h
  subst hc;have ht:Lib.trimPrefix (47::r) [47]=r:=by simp[Lib.trimPrefix,Lib.hasPrefix]
  have hr:r≠[]:=fun e=>by
   subst e;have:s=⟨#[47]⟩:=ByteArray.ext (Array.toList_inj.1 hs);rw[(QCa _ _).2 this]at hn;cases hn
  refine⟨?_,r,rfl,ht⟩;rw[ht];unfold Qpc;rw[hs];cases r with
  | nil=>exact absurd rfl hr
  | cons a q=>simp
theorem QWe:∀(l x:List UInt8),x∈Qvb l→x.length≤l.length
 | [],x,h=>by simp only[Qvb,List.mem_singleton]at h;subst h;exact Nat.le_refl _
 | c::r,x,h=>by
  rw[Qvb]at h;split at h
  ·rcases List.mem_cons.1 h with rfl|h
   ·simp
   have:=QWe r x h;simp only[List.length_cons];omega
  cases hs:Qvb r with
  | nil=>
   rw[hs]at h;simp only[List.mem_singleton]at h;subst h;simp
  | cons s t=>
   rw[hs]at h;rcases List.mem_cons.1 h with rfl|h
   ·have:=QWe r s (by rw[hs];exact List.mem_cons_self);simp only[List.length_cons];omega
   have:=QWe r x (by rw[hs];exact List.mem_cons_of_mem _ h);simp only[List.length_cons];omega
theorem Q7i:∀l:List UInt8,(Qvb l).length≤l.length+1
 | []=>Nat.le_refl _
 | c::r=>by
  have ih:=Q7i r;rw[Qvb];split
  ·simp only[List.length_cons];omega
  cases hs:Qvb r with
  | nil=>simp
  | cons s t=>rw[hs]at ih;simp only[List.length_cons]at ih ⊢;omega
theorem Q4r(s:ByteArray)(w:World)(hs:s.size<4294967281)(lay:Qah w) :
 Calls prog 96 #[.string s] w fun e w'=>e=.returned (.bool (Qpc s))∧Below w.heap.size w w':=by
 have iQ:=hid (fun wx=>Tryz.strings_CutPrefix s ⟨#[47]⟩ wx);by_cases hr:eqS s ⟨#[47]⟩=true
 ·obtain rfl:=(QCa _ _).1 hr;have hx:Lib.hasPrefix (⟨#[47]⟩:ByteArray).data.toList (⟨#[47]⟩:ByteArray).data.toList=true:=by decide
  rw[hx]at iQ;have hP:=hid Q3i;generalize Lib.trimPrefix (⟨#[47]⟩:ByteArray).data.toList (⟨#[47]⟩:ByteArray).data.toList=tp at *
  clear hr hx hs lay;go_enter func96,ntmps96;go_wp2_with fail;refine(iQ.o w).mono ?_;rintro e w1 ⟨rfl,rfl⟩;go_wp2_with fail;go_ret;exact⟨by rw[hP.o];rfl,Below.refl _ _⟩
 have hr':eqS s ⟨#[47]⟩=false:=by simpa using hr
 have Gn:(s.toList == [47])=false:=by
  have h:=hr';unfold eqS at h;rw[ByteArray.toList_eq ⟨#[47]⟩]at h;exact h
 cases hp:Lib.hasPrefix s.data.toList [47]with
 | false=>
  have hP:=hid (Q6r hp);rw[show(⟨#[47]⟩:ByteArray).data.toList=[47]from rfl,hp]at iQ;clear hr hr' hp;go_enter func96,ntmps96;go_wp2_with fail;refine(iQ.o w).mono ?_;rintro e w1 ⟨rfl,rfl⟩;go_wp2_with fail;go_ret;exact⟨by rw[hP.o];rfl,Below.refl _ _⟩
 | true=>
  obtain⟨Kv,r,vG,lO⟩:=Qkq hp hr';rw[lO]at Kv;rw[show(⟨#[47]⟩:ByteArray).data.toList=[47]from rfl,hp,lO]at iQ;obtain⟨m,hm⟩:=lay
  have jb:r.length<4294967281:=by have:s.size=r.length+1:=by have:=congrArg List.length vG;simpa using this
                                  omega
  obtain⟨L,hL⟩:∃L,L=Lib.splitB ⟨#[47]⟩ 0 (Lib.countB ⟨r.toArray⟩ ⟨#[47]⟩) ⟨r.toArray⟩:=⟨_,rfl⟩;have qL:L.length=Lib.countB ⟨r.toArray⟩ ⟨#[47]⟩+1:=by rw[hL];exact Lib.splitB_all _ (by decide) 0 _ _ rfl
  have qK:L.map (·.data.toList)=Qvb r:=by
   rw[hL,Lib.splitB_data];exact Qqn r.length r (Nat.le_refl _)
  have nD:=hid (Tryz.strings_Split ⟨r.toArray⟩ ⟨#[47]⟩ m w (by simpa[ByteArray.size]using jb) hm (by decide));rw[←hL,←qL]at nD;have jW:=hid (QBg 135 Quk (fun x=>!QTa x.data.toList) L (w.alloc (.cells (L.map Value.string).toArray 9)) w.heap.size L.length (fun x hx wx=>Qfq x wx (by
   have MW:=QWe _ _ (show x.data.toList∈Qvb r by rw[←qK];exact List.mem_map_of_mem hx);have:x.size=x.data.toList.length:=by simp
   unfold maxLen;omega)) (Holds.new w _ _) (by
   have h1:=Q7i r;have h2:=congrArg List.length qK;rw[List.length_map]at h2;omega))
  have hA:=hid (show Qpc s = !(L.any fun x=>!QTa x.data.toList)from by
   rw[Kv,←qK,List.all_map,List.not_any_eq_all_not];simp
   rfl)
  have hb:=(Below.refl w.heap.size w).alloc (Nat.le_refl _) (.cells (L.map Value.string).toArray 9);have HB:=hid hb;generalize L.any (fun x=>!QTa x.data.toList)=q at *
  clear hL qL qK Kv hb;go_enter func96,ntmps96;go_wp2_with fail;refine(iQ.o w).mono ?_;rintro e w1 ⟨rfl,rfl⟩;go_wp2_with fail;refine Calls.mono (by exact nD.o) ?_;rintro e w1 ⟨rfl,rfl⟩;go_wp2_with fail;refine Calls.mono (by exact jW.o) ?_;rintro e w1 ⟨rfl,rfl⟩;go_wp2_with fail;go_ret;exact⟨by rw[hA.o];rfl,HB.o⟩
theorem Qrt(a b:Int)(g:Nat)(w:World)(h:Holds w g #[.int .i64 a,.int .i64 b] 3) :
 Calls prog 98 #[.slice (some ⟨g,0,none⟩) 2 2] w fun e w'=>e=.returned (.int .i64 (if a=0 then b else a))∧Below w.heap.size w w':=by
 have c0:=h.cell 0;have c1:=h.cell 1;have gl:=h.lt;clear h;go_enter func98,ntmps98;go_wp2_with fail;go_loopg [8] 2 (fun f x wr=>∃k:Nat,k≤2∧2≤k+f∧x=.int .i64 k∧w=wr∧Hid (0<k→a=0)∧Hid (1<k→b=0))
 case atStart=>exact⟨0,by omega,by omega,rfl,rfl,hid (fun h=>by omega),hid (fun h=>by omega)⟩
 case round=>
  obtain⟨k,hk,hf,rfl,rfl,H0,H1⟩:=hrel;have GH:k=0∨k=1∨k=2:=by omega
  rcases GH with rfl|rfl|rfl
  ·by_cases h0:a=0
   ·have He:(a != 0)=false:=by simpa using h0
    have HA:=hid h0;clear h0;go_wp2_with fail;go_roundg 1
    case measure=>omega
    case rel=>exact⟨1,by omega,by omega,rfl,rfl,hid (fun _=>HA.o),hid (fun h=>by omega)⟩
   have He:(a != 0)=true:=by simpa using h0
   have HA:=hid h0;clear h0;go_wp2_with fail;go_ret;exact⟨by first|rfl | (rw[if_neg HA.o];rfl),Below.refl _ _⟩
  ·have HA:=hid (H0.o (by omega));by_cases h0:b=0
   ·have He:(b != 0)=false:=by simpa using h0
    have HB:=hid h0;clear h0;go_wp2_with fail;go_roundg 0
    case measure=>omega
    case rel=>exact⟨2,by omega,by omega,rfl,rfl,hid (fun _=>HA.o),hid (fun _=>HB.o)⟩
   have He:(b != 0)=true:=by simpa using h0
   clear h0;go_wp2_with fail;go_ret;exact⟨by first|rfl | (rw[if_pos HA.o];rfl),Below.refl _ _⟩
  have HA:=hid (H0.o (by omega));have HB:=hid (H1.o (by omega));go_wp2_with fail;go_ret;exact⟨by first|rfl | (rw[HB.o];rfl) | (rw[if_pos HA.o,HB.o];rfl),Below.refl _ _⟩
theorem Qaq(a b:Int)(g:Nat)(w:World)(h:Holds w g #[.int .i64 a,.int .i64 b] 33) :
 Calls prog 36 #[.slice (some ⟨g,0,none⟩) 2 2] w fun e w'=>e=.returned (.int .i64 (if a=0 then b else a))∧Below w.heap.size w w':=by
 have c0:=h.cell 0;have c1:=h.cell 1;have gl:=h.lt;clear h;go_enter func36,ntmps36;go_wp2_with fail;go_loopg [8] 2 (fun f x wr=>∃k:Nat,k≤2∧2≤k+f∧x=.int .i64 k∧w=wr∧Hid (0<k→a=0)∧Hid (1<k→b=0))
 case atStart=>exact⟨0,by omega,by omega,rfl,rfl,hid (fun h=>by omega),hid (fun h=>by omega)⟩
 case round=>
  obtain⟨k,hk,hf,rfl,rfl,H0,H1⟩:=hrel;have GH:k=0∨k=1∨k=2:=by omega
  rcases GH with rfl|rfl|rfl
  ·by_cases h0:a=0
   ·have He:(a != 0)=false:=by simpa using h0
    have HA:=hid h0;clear h0;go_wp2_with fail;go_roundg 1
    case measure=>omega
    case rel=>exact⟨1,by omega,by omega,rfl,rfl,hid (fun _=>HA.o),hid (fun h=>by omega)⟩
   have He:(a != 0)=true:=by simpa using h0
   have HA:=hid h0;clear h0;go_wp2_with fail;go_ret;exact⟨by first|rfl | (rw[if_neg HA.o];rfl),Below.refl _ _⟩
  ·have HA:=hid (H0.o (by omega));by_cases h0:b=0
   ·have He:(b != 0)=false:=by simpa using h0
    have HB:=hid h0;clear h0;go_wp2_with fail;go_roundg 0
    case measure=>omega
    case rel=>exact⟨2,by omega,by omega,rfl,rfl,hid (fun _=>HA.o),hid (fun _=>HB.o)⟩
   have He:(b != 0)=true:=by simpa using h0
   clear h0;go_wp2_with fail;go_ret;exact⟨by first|rfl | (rw[if_pos HA.o];rfl),Below.refl _ _⟩
  have HA:=hid (H0.o (by omega));have HB:=hid (H1.o (by omega));go_wp2_with fail;go_ret;exact⟨by first|rfl | (rw[HB.o];rfl) | (rw[if_pos HA.o,HB.o];rfl),Below.refl _ _⟩
noncomputable def QVd:Array Oper:=(QPa (Tryz.f53.body.getD .skip) 1).getD #[]
theorem ocR:Q0b .any QVd=true:=by kernel_rfl
theorem Qao:QRb QVd=true:=by kernel_rfl
theorem QFu:QVd.size=13:=by kernel_rfl
def OcF(ga gb:Nat)(a b:Qga)(nB:Nat)(j:Nat):Value→World→Prop:=match j with
 | 0=>fun u _=>u=.pointer (some ⟨ga,1,none⟩)
 | 1=>fun u _=>u=.string a.path
 | 2=>fun u _=>u=.pointer (some ⟨gb,1,none⟩)
 | 3=>fun u _=>u=.string b.path
 | 4=>fun u _=>u=.int .i64 (Qbc a.path b.path)
 | 5=>fun u _=>u=.pointer (some ⟨ga,2,none⟩)
 | 6=>fun u _=>u=.string a.name
 | 7=>fun u _=>u=.pointer (some ⟨gb,2,none⟩)
 | 8=>fun u _=>u=.string b.name
 | 9=>fun u _=>u=.int .i64 (Qbc a.name b.name)
 | 10=>fun u _=>u=.slice (some ⟨nB,0,none⟩) 2 2
 | 11=>fun u _=>u=.int .i64 (if Qbc a.path b.path=0 then Qbc a.name b.name else Qbc a.path b.path)
 | 12=>fun u _=>u=.int .i64 (if Qbc a.path b.path=0 then Qbc a.name b.name else Qbc a.path b.path)
 | _=>fun _ _=>True
def OcC(ga gb:Nat)(a b:Qga)(_ w:World):Prop:=Holds w ga #[.int .i64 a.kind,.string a.path,.string a.name,.string a.value] 39∧Holds w gb #[.int .i64 b.kind,.string b.path,.string b.name,.string b.value] 39
def OcE(_ _:Nat)(a b:Qga)(nB:Nat)(W w:World)(l:Array Bool):Prop:=
 if l.getD 10 false=false then(Below W.heap.size W w)else
 if l.getD 11 false=false then(Below W.heap.size W w∧Holds w nB #[.int .i64 (Qbc a.path b.path),.int .i64 (Qbc a.name b.name)] 3)else
 Below W.heap.size W w
section
variable{ga gb:Nat}{a b:Qga}{nB:Nat}{W w:World}{l:Array Bool}
theorem OcE.other{j:Nat}(h:OcE ga gb a b nB W w l)(n0:j≠10:=by decide)(n1:j≠11:=by decide):OcE ga gb a b nB W w (l.setIfInBounds j true):=by
 unfold OcE at h ⊢;rw[Qsa n0,Qsa n1];exact h
theorem OcE.at0(h:OcE ga gb a b nB W w l)(no:l.getD 10 false=false):Below W.heap.size W w:=by
 unfold OcE at h;rw[no,if_pos rfl]at h;exact h
theorem OcE.to0(hs:10<l.size)(no:l.getD 11 false=false)(h:Below W.heap.size W w∧Holds w nB #[.int .i64 (Qbc a.path b.path),.int .i64 (Qbc a.name b.name)] 3):OcE ga gb a b nB W w (l.setIfInBounds 10 true):=by
 unfold OcE;rw[Qjb hs,if_neg (by simp)];rw[Qsa (show 10≠11 by decide),no,if_pos rfl];exact h
theorem OcE.at1(h:OcE ga gb a b nB W w l)(y0:l.getD 10 false=true)(no:l.getD 11 false=false):Below W.heap.size W w∧Holds w nB #[.int .i64 (Qbc a.path b.path),.int .i64 (Qbc a.name b.name)] 3:=by
 unfold OcE at h;rw[y0,if_neg (by simp)]at h;rw[no,if_pos rfl]at h;exact h
theorem OcE.to1(y0:l.getD 10 false=true)(hs:11<l.size)(h:Below W.heap.size W w):OcE ga gb a b nB W w (l.setIfInBounds 11 true):=by
 unfold OcE;rw[Qsa (show 11≠10 by decide),y0,if_neg (by simp)];rw[Qjb hs,if_neg (by simp)];exact h
theorem OcF.ghost0{nB':Nat}{j:Nat}{u:Value}(h:OcF ga gb a b nB j u w)(n0:j≠10):OcF ga gb a b nB' j u w:=by
 unfold OcF at *
 split at h
 all_goals first
  | exact h
  | exact absurd rfl n0
theorem OcF.world{j:Nat}{u:Value}{w':World}(h:OcF ga gb a b nB j u w):OcF ga gb a b nB j u w':=by
 unfold OcF at *
 split at h
 all_goals exact h
end
theorem Qbo{Q:Exit→Act→World→Prop}(ga gb:Nat)(a b:Qga)(W w:World)(A:Act)(hsz:A.tmps.size=17)
 (a2:A.tmps.getD 2 undef=.pointer (some ⟨ga,0,none⟩)) (a3:A.tmps.getD 3 undef=.pointer (some ⟨gb,0,none⟩)) (hC0:OcC ga gb a b W w) (hE0:Below W.heap.size W w)
 (hQ:∀c w' (nB:Nat),Qpb QVd A c→c.tmps.getD 4 undef=.int .i64 (if Qbc a.path b.path=0 then Qbc a.name b.name else Qbc a.path b.path)→(Below W.heap.size W w')→Q .normal c w') :
 wpAny prog .any QVd Q QVd.size (Array.replicate QVd.size false) A w:=by
 refine QNa (fun l c wx=>∃nB,Qsb QVd A (OcF ga gb a b nB) (fun _=>True) l c wx∧(l.getD 11 false=false→OcC ga gb a b W wx)∧OcE ga gb a b nB W wx l) ocR ?hend ?Hk _ _ _ _ (by simp) (by simp) ⟨0,Qsb.start trivial,fun _=>hC0,by unfold OcE;rw[if_pos (QXg _ _)];exact hE0⟩
 case hend=>
  rintro l c wx ⟨nB,hI,hC,hE⟩ hl;have hh:∀k,k<13→l.getD k false=true:=fun k hk=>hl k (by rw[QFu];exact hk);have J8:Below W.heap.size W wx:=by
   unfold OcE at hE;rw[hh 10 (by decide),if_neg (by simp)]at hE;rw[hh 11 (by decide),if_neg (by simp)]at hE;exact hE
  exact hQ c wx nB hI.1.1 (hI.fact 12 4 rfl (hh 12 (by decide))) J8
 intro l c wx KV i' op ho hl Ha K' hK';obtain⟨nB,hI,hC,hE⟩:=KV;have ke:l.size=13:=by rw[hI.1.2.2.1.1,QFu]
 have hi':i'<13:=by rw[←QFu];exact(Array.getElem?_eq_some_iff.1 ho).1
 have Hf:=ho;simp only[QVd,QPa,Tryz.f53,Option.getD_some,reduceIte,Nat.reduceEqDiff]at ho;have s2:=(hI.slot 2 (by kernel_rfl)).trans a2;have s3:=(hI.slot 3 (by kernel_rfl)).trans a3;have fs:=And.intro True.intro True.intro;simp only[Array.getD_eq_getD_getElem?]at s2 s3;have GB:i'=0∨i'=1∨i'=2∨i'=3∨i'=4∨i'=5∨i'=6∨i'=7∨i'=8∨i'=9∨i'=10∨i'=11∨i'=12:=by omega
 clear hi';rcases GB with rfl|rfl|rfl|rfl|rfl|rfl|rfl|rfl|rfl|rfl|rfl|rfl|rfl
 all_goals cases ho
 ·go_simp;exact hK' _ _ ⟨nB,hI.st Qao 0 5 hsz Hf Ha rfl,(fun h=>hC (Qja h)),hE.other⟩
 ·have f0:c.tmps.getD 5 undef=.pointer (some ⟨ga,1,none⟩):=hI.yf 0 5 13 Hf Ha;have e0:=gE f0;have hc:=hC (hI.1.2.2.1.2.no_far 13 hl (by kernel_rfl:Qzc QVd 13 11 1=true));have x0:=hc.1.cell 1;have xl:=hc.1.lt;go_simp;exact hK' _ _ ⟨nB,hI.st Qao 1 6 hsz Hf Ha rfl,(fun h=>hC (Qja h)),hE.other⟩
 ·go_simp;exact hK' _ _ ⟨nB,hI.st Qao 2 7 hsz Hf Ha rfl,(fun h=>hC (Qja h)),hE.other⟩
 ·have f2:c.tmps.getD 7 undef=.pointer (some ⟨gb,1,none⟩):=hI.yf 2 7 13 Hf Ha;have e2:=gE f2;have hc:=hC (hI.1.2.2.1.2.no_far 13 hl (by kernel_rfl:Qzc QVd 13 11 3=true));have x0:=hc.2.cell 1;have xl:=hc.2.lt;go_simp;exact hK' _ _ ⟨nB,hI.st Qao 3 8 hsz Hf Ha rfl,(fun h=>hC (Qja h)),hE.other⟩
 ·have f1:c.tmps.getD 6 undef=.string a.path:=hI.yf 1 6 13 Hf Ha;have e1:=gE f1;have f3:c.tmps.getD 8 undef=.string b.path:=hI.yf 3 8 13 Hf Ha;have e3:=gE f3;have hc:=hC (hI.1.2.2.1.2.no_far 13 hl (by kernel_rfl:Qzc QVd 13 11 4=true));go_simp;refine(Q2d a.path b.path wx).mono ?_;rintro e w2 ⟨rfl,rfl⟩;go_simp;exact hK' _ _ ⟨nB,hI.st Qao 4 9 hsz Hf Ha rfl,(fun h=>hC (Qja h)),hE.other⟩
 ·go_simp;exact hK' _ _ ⟨nB,hI.st Qao 5 10 hsz Hf Ha rfl,(fun h=>hC (Qja h)),hE.other⟩
 ·have f5:c.tmps.getD 10 undef=.pointer (some ⟨ga,2,none⟩):=hI.yf 5 10 13 Hf Ha;have e5:=gE f5;have hc:=hC (hI.1.2.2.1.2.no_far 13 hl (by kernel_rfl:Qzc QVd 13 11 6=true));have x0:=hc.1.cell 2;have xl:=hc.1.lt;go_simp;exact hK' _ _ ⟨nB,hI.st Qao 6 11 hsz Hf Ha rfl,(fun h=>hC (Qja h)),hE.other⟩
 ·go_simp;exact hK' _ _ ⟨nB,hI.st Qao 7 12 hsz Hf Ha rfl,(fun h=>hC (Qja h)),hE.other⟩
 ·have f7:c.tmps.getD 12 undef=.pointer (some ⟨gb,2,none⟩):=hI.yf 7 12 13 Hf Ha;have e7:=gE f7;have hc:=hC (hI.1.2.2.1.2.no_far 13 hl (by kernel_rfl:Qzc QVd 13 11 8=true));have x0:=hc.2.cell 2;have xl:=hc.2.lt;go_simp;exact hK' _ _ ⟨nB,hI.st Qao 8 13 hsz Hf Ha rfl,(fun h=>hC (Qja h)),hE.other⟩
 ·have f6:c.tmps.getD 11 undef=.string a.name:=hI.yf 6 11 13 Hf Ha;have e6:=gE f6;have f8:c.tmps.getD 13 undef=.string b.name:=hI.yf 8 13 13 Hf Ha;have e8:=gE f8;have hc:=hC (hI.1.2.2.1.2.no_far 13 hl (by kernel_rfl:Qzc QVd 13 11 9=true));go_simp;refine(Q2d a.name b.name wx).mono ?_;rintro e w2 ⟨rfl,rfl⟩;go_simp;exact hK' _ _ ⟨nB,hI.st Qao 9 14 hsz Hf Ha rfl,(fun h=>hC (Qja h)),hE.other⟩
 ·have f4:c.tmps.getD 9 undef=.int .i64 (Qbc a.path b.path):=hI.yf 4 9 13 Hf Ha;have e4:=gE f4;have f9:c.tmps.getD 14 undef=.int .i64 (Qbc a.name b.name):=hI.yf 9 14 13 Hf Ha;have e9:=gE f9;have hc:=hC (hI.1.2.2.1.2.no_far 13 hl (by kernel_rfl:Qzc QVd 13 11 10=true));have hp:=hE.at0 hl;have un:=hI.1.2.2.1.2.no_far 13 hl (by kernel_rfl:Qzc QVd 13 11 10=true);have Kj:Below W.heap.size W (wx.alloc (.cells #[.int .i64 (Qbc a.path b.path),.int .i64 (Qbc a.name b.name)] 3))∧Holds (wx.alloc (.cells #[.int .i64 (Qbc a.path b.path),.int .i64 (Qbc a.name b.name)] 3)) wx.heap.size #[.int .i64 (Qbc a.path b.path),.int .i64 (Qbc a.name b.name)] 3:=⟨hp.alloc hp.size _,Holds.new _ _ _⟩;have gh:OcC ga gb a b W (wx.alloc (.cells #[.int .i64 (Qbc a.path b.path),.int .i64 (Qbc a.name b.name)] 3)):=⟨hc.1.alloc _,hc.2.alloc _⟩;go_simp;have hJ:Qsb QVd A (OcF ga gb a b (wx.heap.size)) (fun _=>True) l c wx:=⟨hI.1.other (fun j hj u hF=>OcF.ghost0 hF (Q1a hj hl)),hI.2⟩;exact hK' _ _ ⟨wx.heap.size,hJ.step Qao 10 15 rfl (by rw[hsz];decide) _ _ Hf Ha trivial (fun _ _ h=>OcF.world h) rfl,fun _=>gh,OcE.to0 (by rw[ke];decide) un Kj⟩
 ·have f10:c.tmps.getD 15 undef=.slice (some ⟨nB,0,none⟩) 2 2:=hI.yf 10 15 13 Hf Ha;have e10:=gE f10;have hc:=hC (hI.1.2.2.1.2.no_far 13 hl (by kernel_rfl:Qzc QVd 13 11 11=true));have y0:l.getD 10 false=true:=hI.1.2.2.1.2.yes_far 13 Hf Ha (by decide) (by kernel_rfl);have hp:=hE.at1 y0 hl;obtain⟨KH,iw⟩:=hp;go_simp;refine(Qrt (Qbc a.path b.path) (Qbc a.name b.name) nB wx iw).mono ?_;rintro e w2 ⟨rfl,Hc⟩;have Kj:Below W.heap.size W w2:=KH.trans (Hc.mono KH.size);have gh:OcC ga gb a b W w2:=⟨hc.1.fr Hc,hc.2.fr Hc⟩;exact hK' _ _ ⟨_,hI.step Qao 11 16 rfl (by rw[hsz];decide) _ _ Hf Ha trivial (fun _ _ h=>OcF.world h) rfl,fun h=>absurd h (by rw[Qjb (by rw[ke];decide)];simp),OcE.to1 y0 (by rw[ke];decide) Kj⟩
 have f11:c.tmps.getD 16 undef=.int .i64 (if Qbc a.path b.path=0 then Qbc a.name b.name else Qbc a.path b.path):=hI.yf 11 16 13 Hf Ha;have e11:=gE f11;go_simp;exact hK' _ _ ⟨nB,hI.st Qao 12 4 hsz Hf Ha rfl,(fun h=>hC (Qja h)),hE.other⟩
end Go.Proofs.YtgaboghigefgbaaGreatDoor
