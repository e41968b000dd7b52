/- Lemmas on the way to the law; no conditions. -/
import Derived.Test.YtgaboghigefgbaaGreatDoorZ7
import Derived.Deep.LoopGhost
set_option linter.all false
set_option maxHeartbeats 8000000
namespace Go.Proofs.YtgaboghigefgbaaGreatDoor
open Go.Lib (hid)
open Go.RowKit
theorem Qku{w:World}{b:Nat}{s:ByteArray}{i:Nat}{file line col:Int}{t:TypeId}(h:Holds w b (Qjc s i file line col) t)(h0:Qah w):b≠0:=by
 rintro rfl;obtain⟨m,h0⟩:=h0;have:=(h.cell 0).symm.trans h0;simp[Qjc]at this
def QKf(s:ByteArray)(i:Nat)(file line col:Int)(b:Nat)(w:World)(e:Ending)(w':World):Prop:=
 e=.returned (.int .i64 (if (blk (s.size-i) (s.data.toList.drop i)).2=true then 21 else 0))∧
 Holds w' b (Qjc s (i+(blk (s.size-i) (s.data.toList.drop i)).1) file (adv ((s.data.toList.drop i).take (blk (s.size-i) (s.data.toList.drop i)).1) (line,col)).1 (adv ((s.data.toList.drop i).take (blk (s.size-i) (s.data.toList.drop i)).1) (line,col)).2) 183∧Qaa (· = b) w w'
theorem QBr(s:ByteArray)(i f:Nat)(hi:i≤s.size):i+(blk f (s.data.toList.drop i)).1≤s.size:=by
 have:=QWt f (s.data.toList.drop i);simp at this;omega
theorem Qnr(l:List UInt8)(i j n:Nat)(h:i≤j)(p:Int × Int):adv ((l.drop j).take n) (adv ((l.drop i).take (j-i)) p)=adv ((l.drop i).take (j+n-i)) p:=by
 rw[←Qwn]
 congr 1
 rw[show j+n-i=(j-i)+n from by omega,List.take_add,List.drop_drop,show i+(j-i)=j from by omega]
def QWu(s:ByteArray)(i:Nat)(file line col:Int)(b:Nat)(w:World)(B:Nat × Bool)(f:Nat)(wr:World):Prop:=
 ∃j:Nat,∃l c:Int,i≤j∧j≤s.size∧s.size≤j+f∧1≤l∧l≤j+1∧1≤c∧c≤j+1∧B=((blk f (s.data.toList.drop j)).1+(j-i),(blk f (s.data.toList.drop j)).2)∧
  (l,c)=adv ((s.data.toList.drop i).take (j-i)) (line,col)∧Holds wr b (Qjc s j file l c) 183∧Qaa (· = b) w wr
theorem Qsh{s:ByteArray}{i:Nat}{file line col:Int}{b:Nat}{w w2:World}{B:Nat × Bool}{f j n:Nat}{l c:Int}(kV:i≤j)(lA:j+n≤s.size)(hf:s.size≤j+n+f)(GO:1≤l)(gS:l≤j+1)(gy:1≤c)(gh:c≤j+1)
 (hA:(l,c)=adv ((s.data.toList.drop i).take (j-i)) (line,col)) (hB:B=((blk f (s.data.toList.drop (j+n))).1+n+(j-i),(blk f (s.data.toList.drop (j+n))).2))
 (hH:Holds w2 b (Qjc s (j+n) file (adv ((s.data.toList.drop j).take n) (l,c)).1 (adv ((s.data.toList.drop j).take n) (l,c)).2) 183) (hK:Qaa (· = b) w w2):QWu s i file line col b w B f w2:=by
 have GD:=QWo ((s.data.toList.drop j).take n) (l,c) GO gy;have Mp:((s.data.toList.drop j).take n).length≤n:=by simp;omega
 refine⟨j+n,_,_,by omega,lA,hf,GD.1,by simp at GD;omega,GD.2.1,by simp at GD;omega,?_,?_,hH,hK⟩
 ·rw[hB];congr 1;omega
 rw[hA,Qnr _ i j n kV]
theorem Qrh{s:ByteArray}{i:Nat}{file line col:Int}{b:Nat}{w w2:World}{B:Nat × Bool}{j:Nat}{l c:Int}{x:Bool}{e:Ending}(kV:i≤j)
 (hA:(l,c)=adv ((s.data.toList.drop i).take (j-i)) (line,col)) (hB:B=(j-i,x)) (HB:blk (s.size-i) (s.data.toList.drop i)=B)
 (hH:Holds w2 b (Qjc s j file l c) 183) (hK:Qaa (· = b) w w2) (he:e=.returned (.int .i64 (if x=true then 21 else 0))):QKf s i file line col b w e w2:=by
 unfold QKf;rw[HB,hB];refine⟨he,?_,hK⟩;simp only;rw[←hA,show i+(j-i)=j from by omega];exact hH
theorem Q3s{f:Nat}{c:UInt8}{r:List UInt8}(h:Qar c.toNat=true):blk (f+1) (c::r)=((blk f r).1+1,(blk f r).2):=by simp[blk,h]
theorem Qyr{f:Nat}{c:UInt8}{r:List UInt8}(h:Qar c.toNat=false)(h2:Lib.hasPrefix (c::r) [47,47]=true):blk (f+1) (c::r)=((blk f ((c::r).drop (Qwc Qcd (c::r)))).1+Qwc Qcd (c::r),(blk f ((c::r).drop (Qwc Qcd (c::r)))).2):=by
 simp only[blk];rw[if_neg (by simp[h]),if_pos h2]
theorem Q2s{f:Nat}{c:UInt8}{r:List UInt8}(h:Qar c.toNat=false)(h2:Lib.hasPrefix (c::r) [47,47]=false)(h3:Lib.hasPrefix (c::r) [47,42]=true)(h4:Lib.index ((c::r).drop 2) [42,47]<0):blk (f+1) (c::r)=(0,true):=by
 simp only[blk];rw[if_neg (by simp[h]),if_neg (by simp[h2]),if_pos h3,if_pos h4]
theorem QAr{f:Nat}{c:UInt8}{r:List UInt8}(h:Qar c.toNat=false)(h2:Lib.hasPrefix (c::r) [47,47]=false)(h3:Lib.hasPrefix (c::r) [47,42]=true)(n:Nat)(h4:Lib.index ((c::r).drop 2) [42,47]=n):blk (f+1) (c::r)=((blk f ((c::r).drop (n+4))).1+(n+4),(blk f ((c::r).drop (n+4))).2):=by
 simp only[blk];rw[if_neg (by simp[h]),if_neg (by simp[h2]),if_pos h3,if_neg (by omega),h4];rfl
theorem Qzr{f:Nat}{c:UInt8}{r:List UInt8}(h:Qar c.toNat=false)(h2:Lib.hasPrefix (c::r) [47,47]=false)(h3:Lib.hasPrefix (c::r) [47,42]=false):blk (f+1) (c::r)=(0,false):=by
 simp only[blk];rw[if_neg (by simp[h]),if_neg (by simp[h2]),if_neg (by simp[h3])]
theorem Qml(s:ByteArray)(i:Nat)(file line col:Int)(b:Nat)(w:World)(h:Holds w b (Qjc s i file line col) 183)(hi:i≤s.size)(hs:s.size≤16000)
 (hl:1≤line) (hl':line≤i+1) (hc:1≤col) (hc':col≤i+1) (h0:Qah w) :
 Calls Tryz.prog 157 #[.pointer (some ⟨b,0,none⟩)] w (QKf s i file line col b w):=by
 have He:=Qku h h0;generalize hB:blk (s.size-i) (s.data.toList.drop i)=B;have HB:=hid hB;clear hB;go_enter Tryz.func157,Tryz.ntmps157;go_wp2_with fail;go_loopg [] (s.size-i) (fun f wr=>QWu s i file line col b w B f wr)
 case atStart=>exact⟨i,line,col,by omega,hi,by omega,hl,hl',hc,hc',by rw[HB.o];simp,by simp[adv],h,Qaa.refl _ _⟩
 case round=>
  obtain⟨j,l,c,kV,hj,hf,GO,gS,gy,gh,hE,hA,hH,hK⟩:=hrel;have HE:=hid hE;clear hE;have HA:=hid hA;clear hA;have GV:=fun wx hh=>Q9i s j file l c b wx hh hj (by unfold maxLen;omega);have bj:=fun n hn wx hh=>Qdj s j n file l c b wx hh hn (by omega) GO gS gy gh;by_cases Hh:j<s.size
  ·have gi:(s.extract j s.size).size=s.size-j:=by simp
   have Gz:=QEc s j;obtain⟨m,hm⟩:=h0.keeps hK (fun e=>He e.symm);generalize s.extract j s.size=r at GV gi Gz;have bV:0<r.size:=by omega
   have hr4:r.size≤16000:=by omega
   have hD:=hid ((List.drop_zero (l:=r.data.toList)).symm.trans (Qdb r 0 bV));have j5:=hid Gz;clear Gz;have Kx:=hid gi;clear gi;have jB:=hid GV;clear GV;have nC:=hid bj;clear bj;obtain⟨f,rfl⟩:∃f',gk=f'+1:=⟨gk-1,by omega⟩;have Hl:=QLe r bV;have kM:=QJc r bV;have H3:Hid (∀nd,Qaa (· = b) w (wr.drewN nd)):=fun nd=>hK.drewN nd;by_cases mM:Qar r[0].toNat=true
   ·have K8:=hid (show B=((blk f (s.data.toList.drop (j+1))).1+1+(j-i),(blk f (s.data.toList.drop (j+1))).2)from by rw[HE.o,←j5.o,hD.o,Q3s mM,show r.data.toList.drop (0+1)=s.data.toList.drop (j+1)from by rw[j5.o,List.drop_drop]]);have hx:0≤Lib.indexByte [32,9,13,10] r[0]:=by have:=QWf [32,9,13,10] r[0];unfold Qar at mM;rw[mM]at this;simpa using this
    clear mM;go_wp2_with fail;refine(jB.o _ hH).mono ?_;rintro e w1 ⟨rfl,nd,rfl⟩;go_wp2_with(go_at_call 131;refine(Tryz.strings_IndexByte _ _ _).mono ?_;rintro e w' ⟨rfl,rfl⟩);refine(nC.o 1 (by omega) _ (hH.drewN nd)).mono ?_;rintro e w1 ⟨rfl,mw,Gh⟩;go_wp2_with fail;go_roundg f
    case measure=>omega
    case rel=>exact Qsh kV (by omega) (by omega) GO gS gy gh HA.o K8.o mw ((H3.o nd).trans Gh (fun _ _ h=>h))
   have mM:Qar r[0].toNat=false:=by simpa using mM
   have hx:Lib.indexByte [32,9,13,10] r[0]<0:=by have:=QWf [32,9,13,10] r[0];unfold Qar at mM;rw[mM]at this;simpa using this
   have HS:=hid mM;clear mM;by_cases h1:Lib.hasPrefix r.data.toList [47,47]=true
   ·have K8:=hid (show B=((blk f (s.data.toList.drop (j+Qwc Qcd r.data.toList))).1+Qwc Qcd r.data.toList+(j-i),(blk f (s.data.toList.drop (j+Qwc Qcd r.data.toList))).2)from by
     have h1':=h1;rw[hD.o]at h1';rw[HE.o,←List.drop_drop,←j5.o,hD.o,Qyr HS.o h1'])
    have Gw:=fun wx=>Qgi r 0 193 Qcd wx QAm Qqk (by unfold maxLen;omega) (by omega);rw[List.drop_zero]at Gw;have jb:=Qfe Qcd r.data.toList;have JJ:1≤Qwc Qcd r.data.toList:=by
     have h1':=h1;rw[hD.o]at h1';have e0:r[0]=47:=by simp[Lib.hasPrefix]at h1';exact h1'.1.symm
     rw[hD.o,Qfg,if_pos (by rw[e0];decide)];omega
    generalize Qwc Qcd r.data.toList=n at K8 Gw jb JJ;have hrl2:j+n≤s.size:=by have:=Kx.o;simp at jb;omega
    have HU:=hid Gw;clear Gw jb;go_wp2_with fail;refine(jB.o _ hH).mono ?_;rintro e w1 ⟨rfl,nd,rfl⟩;go_wp2_with(first | (go_at_call 131;refine(Tryz.strings_IndexByte _ _ _).mono ?_;rintro e w' ⟨rfl,rfl⟩) | (go_at_call 124;refine(Tryz.strings_HasPrefix _ _ _).mono ?_;rintro e w' ⟨rfl,rfl⟩) | (go_at_call 192;refine(HU.o _).mono ?_;rintro e w' ⟨rfl,rfl⟩));refine(nC.o n (by omega) _ (hH.drewN nd)).mono ?_;rintro e w1 ⟨rfl,mw,Gh⟩;go_wp2_with fail;go_roundg f
    case measure=>omega
    case rel=>exact Qsh kV (by omega) (by omega) GO gS gy gh HA.o K8.o mw ((H3.o nd).trans Gh (fun _ _ h=>h))
   have h1:Lib.hasPrefix r.data.toList [47,47]=false:=by simpa using h1
   have h1':=hid (show Lib.hasPrefix (r[0]::r.data.toList.drop (0+1)) [47,47]=false from by rw[←hD.o];exact h1);by_cases h2:Lib.hasPrefix r.data.toList [47,42]=true
   ·have h2':=hid (show Lib.hasPrefix (r[0]::r.data.toList.drop (0+1)) [47,42]=true from by rw[←hD.o];exact h2);have zH:2≤r.size:=by have:=Lib.hasPrefix_le h2;simpa using this
    have aN:=fun wx hm=>Tryz.strings_Index (r.extract 2 r.size) ⟨#[42,47]⟩ m wx (by simp;omega) hm;rw[QEc]at aN;have bP:=Lib.index_ge (r.data.toList.drop 2) [42,47];have iC:=Lib.index_room (r.data.toList.drop 2) [42,47];have HX:Hid (∀x,Lib.index (r.data.toList.drop 2) [42,47]=x→Lib.index ((r[0]::r.data.toList.drop (0+1)).drop 2) [42,47]=x):=by intro x hx;rw[←hD.o];exact hx
    change ∀wx hm,Calls _ _ _ _ fun e w'=>e=.returned (.int .i64 (Lib.index (r.data.toList.drop 2) [42,47]))∧_ at aN;generalize hxi:Lib.index (r.data.toList.drop 2) [42,47]=xi at aN bP iC;have wO:=hid hxi;clear hxi;have dO:=hid aN;clear aN;by_cases hneg:xi<0
    ·have K8:=hid (show B=(j-i,true)from by rw[HE.o,←j5.o,hD.o,Q2s HS.o h1'.o h2'.o (by rw[HX.o _ wO.o];exact hneg)];simp);clear iC;go_wp2_with fail;refine(jB.o _ hH).mono ?_;rintro e w1 ⟨rfl,nd,rfl⟩;go_wp2_with(first | (go_at_call 131;refine(Tryz.strings_IndexByte _ _ _).mono ?_;rintro e w' ⟨rfl,rfl⟩) | (go_at_call 124;refine(Tryz.strings_HasPrefix _ _ _).mono ?_;rintro e w' ⟨rfl,rfl⟩) | (go_at_call 185;refine(dO.o _ (by exact hm)).mono ?_;rintro e w' ⟨rfl,rfl⟩))
     go_ret;exact Qrh kV HA.o K8.o HB.o (hH.drewN nd) (H3.o nd) rfl
    obtain⟨n,rfl⟩:∃n:Nat,xi=n:=⟨xi.toNat,by omega⟩;have K8:=hid (show B=((blk f (s.data.toList.drop (j+(n+4)))).1+(n+4)+(j-i),(blk f (s.data.toList.drop (j+(n+4)))).2)from by
     rw[HE.o,←List.drop_drop,←j5.o,hD.o,QAr HS.o h1'.o h2'.o n (HX.o _ wO.o)])
    have lA:j+(n+4)≤s.size:=by have q:=iC (by omega);have q2:=Kx.o;simp at q;omega
    clear iC;go_wp2_with fail;refine(jB.o _ hH).mono ?_;rintro e w1 ⟨rfl,nd,rfl⟩;go_wp2_with(first | (go_at_call 131;refine(Tryz.strings_IndexByte _ _ _).mono ?_;rintro e w' ⟨rfl,rfl⟩) | (go_at_call 124;refine(Tryz.strings_HasPrefix _ _ _).mono ?_;rintro e w' ⟨rfl,rfl⟩) | (go_at_call 185;refine(dO.o _ (by exact hm)).mono ?_;rintro e w' ⟨rfl,rfl⟩))
    refine(nC.o (n+4) (by omega) _ (hH.drewN nd)).mono ?_;rintro e w1 ⟨rfl,mw,Gh⟩;go_wp2_with fail;go_roundg f
    case measure=>omega
    case rel=>exact Qsh kV (by omega) (by omega) GO gS gy gh HA.o K8.o mw ((H3.o nd).trans Gh (fun _ _ h=>h))
   have h2:Lib.hasPrefix r.data.toList [47,42]=false:=by simpa using h2
   have K8:=hid (show B=(j-i,false)from by rw[HE.o,←j5.o,hD.o,Qzr HS.o h1'.o (by rw[←hD.o];exact h2)];simp);go_wp2_with fail;refine(jB.o _ hH).mono ?_;rintro e w1 ⟨rfl,nd,rfl⟩;go_wp2_with(first | (go_at_call 131;refine(Tryz.strings_IndexByte _ _ _).mono ?_;rintro e w' ⟨rfl,rfl⟩) | (go_at_call 124;refine(Tryz.strings_HasPrefix _ _ _).mono ?_;rintro e w' ⟨rfl,rfl⟩));go_ret;exact Qrh kV HA.o K8.o HB.o (hH.drewN nd) (H3.o nd) rfl
  obtain rfl:j=s.size:=by omega
  have K8:=hid (show B=(s.size-i,false)from by rw[HE.o,QFc s s.size (Nat.le_refl _)];cases gk <;> simp[blk]);have he:s.extract s.size s.size=ByteArray.empty:=Qeh _ (by simp);rw[he]at GV;have jB:=hid GV;clear GV bj he;have H3:Hid (∀nd,Qaa (· = b) w (wr.drewN nd)):=fun nd=>hK.drewN nd;go_wp2_with fail;refine(jB.o _ hH).mono ?_;rintro e w1 ⟨rfl,nd,rfl⟩;go_wp2_with fail;go_ret;exact Qrh kV HA.o K8.o HB.o (hH.drewN nd) (H3.o nd) rfl
end Go.Proofs.YtgaboghigefgbaaGreatDoor
