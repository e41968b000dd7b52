/- The contract of blanks of token. -/
import Derived.Test.YtgaboghigefgbaaGreatDoorZ3
import Derived.Test.YtgaboghigefgbaaGreatDoorZ5
import Derived.Test.YtgaboghigefgbaaGreatDoorZ6
import Derived.Test.YtgaboghigefgbaaGreatDoorZ2
import Derived.Deep.LoopGhost
set_option linter.all false
set_option maxHeartbeats 8000000
namespace Go.Proofs.YtgaboghigefgbaaGreatDoor
open Go.Lib (hid)
open Go.RowKit
theorem Q8t{w:World}{b:Nat}{s:ByteArray}{i:Nat}{file line col:Int}{t:TypeId}(h:Holds w b (Qsc s i file line col) t)(h0:Qog w):b≠0:=by
 rintro rfl
 obtain⟨m,h0⟩:=h0
 have:=(h.cell 0).symm.trans h0
 simp[Qsc]at this
def QQf(s:ByteArray)(i:Nat)(file line col:Int)(b:Nat)(w:World)(e:Ending)(w':World):Prop:=
 e = .returned (.int .i64 (if (blk (s.size-i) (s.data.toList.drop i)).2=true then 21 else 0))∧
 Holds w' b (Qsc s (i+(blk (s.size-i) (s.data.toList.drop i)).1) file (adv ((s.data.toList.drop i).take (blk (s.size-i) (s.data.toList.drop i)).1) (line,col)).1 (adv ((s.data.toList.drop i).take (blk (s.size-i) (s.data.toList.drop i)).1) (line,col)).2) 183∧Qaa (· = b) w w'
theorem Q2q(s:ByteArray)(i f:Nat)(hi:i≤s.size):i+(blk f (s.data.toList.drop i)).1≤s.size:=by
 have:=QAt f (s.data.toList.drop i)
 simp at this;omega
theorem QUq(l:List UInt8)(i j n:Nat)(h:i≤j)(p:Int × Int):adv ((l.drop j).take n) (adv ((l.drop i).take (j-i)) p)=adv ((l.drop i).take (j+n-i)) p:=by
 rw[←Qjn]
 congr 1
 rw[show j+n-i=(j-i)+n from by omega,List.take_add,List.drop_drop,show i+(j-i)=j from by omega]
def QIu(s:ByteArray)(i:Nat)(file line col:Int)(b:Nat)(w:World)(B:Nat × Bool)(f:Nat)(wr:World):Prop:=
 ∃j:Nat,∃l c:Int,i≤j∧j≤s.size∧s.size≤j+f∧1≤l∧l≤j+1∧1≤c∧c≤j+1∧B=((blk f (s.data.toList.drop j)).1+(j-i),(blk f (s.data.toList.drop j)).2)∧
  (l,c)=adv ((s.data.toList.drop i).take (j-i)) (line,col)∧Holds wr b (Qsc s j file l c) 183∧Qaa (· = b) w wr
theorem Qxh{s:ByteArray}{i:Nat}{file line col:Int}{b:Nat}{w w2:World}{B:Nat × Bool}{f j n:Nat}{l c:Int}(kt:i≤j)(pH:j+n≤s.size)(hf:s.size≤j+n+f)(GO:1≤l)(Ge:l≤j+1)(gM:1≤c)(gB:c≤j+1)
 (hA:(l,c)=adv ((s.data.toList.drop i).take (j-i)) (line,col)) (hB:B=((blk f (s.data.toList.drop (j+n))).1+n+(j-i),(blk f (s.data.toList.drop (j+n))).2))
 (hH:Holds w2 b (Qsc s (j+n) file (adv ((s.data.toList.drop j).take n) (l,c)).1 (adv ((s.data.toList.drop j).take n) (l,c)).2) 183) (hK:Qaa (· = b) w w2):QIu s i file line col b w B f w2:=by
 have gw:=QPo ((s.data.toList.drop j).take n) (l,c) GO gM
 have jl:((s.data.toList.drop j).take n).length≤n:=by simp;omega
 refine⟨j+n,_,_,by omega,pH,hf,gw.1,by simp at gw;omega,gw.2.1,by simp at gw;omega,?_,?_,hH,hK⟩
 ·rw[hB];congr 1;omega
 ·rw[hA,QUq _ i j n kt]
theorem Qwh{s:ByteArray}{i:Nat}{file line col:Int}{b:Nat}{w w2:World}{B:Nat × Bool}{j:Nat}{l c:Int}{x:Bool}{e:Ending}(kt:i≤j)
 (hA:(l,c)=adv ((s.data.toList.drop i).take (j-i)) (line,col)) (hB:B=(j-i,x)) (HB:blk (s.size-i) (s.data.toList.drop i)=B)
 (hH:Holds w2 b (Qsc s j file l c) 183) (hK:Qaa (· = b) w w2) (he:e = .returned (.int .i64 (if x=true then 21 else 0))):QQf s i file line col b w e w2:=by
 unfold QQf
 rw[HB,hB]
 refine⟨he,?_,hK⟩
 simp only
 rw[←hA,show i+(j-i)=j from by omega]
 exact hH
theorem Qvs{f:Nat}{c:UInt8}{r:List UInt8}(h:QJq c.toNat=true):blk (f+1) (c::r)=((blk f r).1+1,(blk f r).2):=by simp[blk,h]
theorem QZq{f:Nat}{c:UInt8}{r:List UInt8}(h:QJq c.toNat=false)(h2:Lib.hasPrefix (c::r) [47,47]=true):blk (f+1) (c::r)=((blk f ((c::r).drop (QFc Qkd (c::r)))).1+QFc Qkd (c::r),(blk f ((c::r).drop (QFc Qkd (c::r)))).2):=by
 simp only[blk];rw[if_neg (by simp[h]),if_pos h2]
theorem Qus{f:Nat}{c:UInt8}{r:List UInt8}(h:QJq c.toNat=false)(h2:Lib.hasPrefix (c::r) [47,47]=false)(h3:Lib.hasPrefix (c::r) [47,42]=true)(h4:Lib.index ((c::r).drop 2) [42,47]<0):blk (f+1) (c::r)=(0,true):=by
 simp only[blk];rw[if_neg (by simp[h]),if_neg (by simp[h2]),if_pos h3,if_pos h4]
theorem Q1q{f:Nat}{c:UInt8}{r:List UInt8}(h:QJq c.toNat=false)(h2:Lib.hasPrefix (c::r) [47,47]=false)(h3:Lib.hasPrefix (c::r) [47,42]=true)(n:Nat)(h4:Lib.index ((c::r).drop 2) [42,47]=n):blk (f+1) (c::r)=((blk f ((c::r).drop (n+4))).1+(n+4),(blk f ((c::r).drop (n+4))).2):=by
 simp only[blk];rw[if_neg (by simp[h]),if_neg (by simp[h2]),if_pos h3,if_neg (by omega),h4];rfl
theorem Q0q{f:Nat}{c:UInt8}{r:List UInt8}(h:QJq c.toNat=false)(h2:Lib.hasPrefix (c::r) [47,47]=false)(h3:Lib.hasPrefix (c::r) [47,42]=false):blk (f+1) (c::r)=(0,false):=by
 simp only[blk];rw[if_neg (by simp[h]),if_neg (by simp[h2]),if_neg (by simp[h3])]
theorem Qal(s:ByteArray)(i:Nat)(file line col:Int)(b:Nat)(w:World)(h:Holds w b (Qsc s i file line col) 183)(hi:i≤s.size)(hs:s.size≤16000)
 (hl:1≤line) (hl':line≤i+1) (hc:1≤col) (hc':col≤i+1) (h0:Qog w) :
 Calls Tryz.prog 157 #[.pointer (some ⟨b,0,none⟩)] w (QQf s i file line col b w):=by
 have He:=Q8t h h0
 generalize hB:blk (s.size-i) (s.data.toList.drop i)=B
 have HB:=hid hB;clear hB
 go_enter Tryz.func157,Tryz.ntmps157
 go_wp2_with fail
 go_loopg [] (s.size-i) (fun f wr=>QIu s i file line col b w B f wr)
 case atStart=>exact⟨i,line,col,by omega,hi,by omega,hl,hl',hc,hc',by rw[HB.out];simp,by simp[adv],h,Qaa.refl _ _⟩
 case round=>
  obtain⟨j,l,c,kt,hj,hf,GO,Ge,gM,gB,hE,hA,hH,hK⟩:=hrel
  have HE:=hid hE;clear hE
  have HA:=hid hA;clear hA
  have GY:=fun wx hh=>Q3i s j file l c b wx hh hj (by unfold maxLen;omega)
  have cx:=fun n hn wx hh=>Q7i s j n file l c b wx hh hn (by omega) GO Ge gM gB
  by_cases Hh:j<s.size
  ·have Hx:(s.extract j s.size).size=s.size-j:=by simp
   have gd:=QJc s j
   obtain⟨m,hm⟩:=h0.keeps hK (fun e=>He e.symm)
   generalize s.extract j s.size=r at GY Hx gd
   have MG:0<r.size:=by omega
   have aJ:r.size≤16000:=by omega
   have hD:=hid ((List.drop_zero (l:=r.data.toList)).symm.trans (QCb r 0 MG))
   have Mt:=hid gd;clear gd
   have kr:=hid Hx;clear Hx
   have Jl:=hid GY;clear GY
   have qD:=hid cx;clear cx
   obtain⟨f,rfl⟩:∃f',gk=f'+1:=⟨gk-1,by omega⟩
   have Hm:=QYe r MG
   have kN:=QTc r MG
   have gf:Hid (∀nd,Qaa (· = b) w (wr.drewN nd)):=fun nd=>hK.drewN nd
   by_cases Mb:QJq r[0].toNat=true
   ·have Kg:=hid (show B=((blk f (s.data.toList.drop (j+1))).1+1+(j-i),(blk f (s.data.toList.drop (j+1))).2)from by rw[HE.out,←Mt.out,hD.out,Qvs Mb,show r.data.toList.drop (0+1)=s.data.toList.drop (j+1)from by rw[Mt.out,List.drop_drop]])
    have hx:0≤Lib.indexByte [32,9,13,10] r[0]:=by have:=Q3f [32,9,13,10] r[0];unfold QJq at Mb;rw[Mb]at this;simpa using this
    clear Mb
    go_wp2_with fail
    refine(Jl.out _ hH).mono ?_
    rintro e w1 ⟨rfl,nd,rfl⟩
    go_wp2_with (go_at_call 131;refine(Tryz.strings_IndexByte _ _ _).mono ?_;rintro e w' ⟨rfl,rfl⟩)
    refine(qD.out 1 (by omega) _ (hH.drewN nd)).mono ?_
    rintro e w1 ⟨rfl,mb,Gg⟩
    go_wp2_with fail
    go_roundg f
    case measure=>omega
    case rel=>exact Qxh kt (by omega) (by omega) GO Ge gM gB HA.out Kg.out mb ((gf.out nd).trans Gg (fun _ _ h=>h))
   ·have Mb:QJq r[0].toNat=false:=by simpa using Mb
    have hx:Lib.indexByte [32,9,13,10] r[0]<0:=by have:=Q3f [32,9,13,10] r[0];unfold QJq at Mb;rw[Mb]at this;simpa using this
    have HS:=hid Mb;clear Mb
    by_cases h1:Lib.hasPrefix r.data.toList [47,47]=true
    ·have Kg:=hid (show B=((blk f (s.data.toList.drop (j+QFc Qkd r.data.toList))).1+QFc Qkd r.data.toList+(j-i),(blk f (s.data.toList.drop (j+QFc Qkd r.data.toList))).2)from by
      have h1':=h1
      rw[hD.out]at h1'
      rw[HE.out,←List.drop_drop,←Mt.out,hD.out,QZq HS.out h1'])
     have Gw:=fun wx=>Qki r 0 193 Qkd wx Qtm Qdk (by unfold maxLen;omega) (by omega)
     rw[List.drop_zero]at Gw
     have jq:=Qxe Qkd r.data.toList
     have JE:1≤QFc Qkd r.data.toList:=by
      have h1':=h1
      rw[hD.out]at h1'
      have e0:r[0]=47:=by simp[Lib.hasPrefix]at h1';exact h1'.1.symm
      rw[hD.out,Qig,if_pos (by rw[e0];decide)];omega
     generalize QFc Qkd r.data.toList=n at Kg Gw jq JE
     have hrl2:j+n≤s.size:=by have:=kr.out;simp at jq;omega
     have HU:=hid Gw;clear Gw jq
     go_wp2_with fail
     refine(Jl.out _ hH).mono ?_
     rintro e w1 ⟨rfl,nd,rfl⟩
     go_wp2_with (first | (go_at_call 131;refine(Tryz.strings_IndexByte _ _ _).mono ?_;rintro e w' ⟨rfl,rfl⟩) | (go_at_call 124;refine(Tryz.strings_HasPrefix _ _ _).mono ?_;rintro e w' ⟨rfl,rfl⟩) | (go_at_call 192;refine(HU.out _).mono ?_;rintro e w' ⟨rfl,rfl⟩))
     refine(qD.out n (by omega) _ (hH.drewN nd)).mono ?_
     rintro e w1 ⟨rfl,mb,Gg⟩
     go_wp2_with fail
     go_roundg f
     case measure=>omega
     case rel=>exact Qxh kt (by omega) (by omega) GO Ge gM gB HA.out Kg.out mb ((gf.out nd).trans Gg (fun _ _ h=>h))
    ·have h1:Lib.hasPrefix r.data.toList [47,47]=false:=by simpa using h1
     have h1':=hid (show Lib.hasPrefix (r[0]::r.data.toList.drop (0+1)) [47,47]=false from by rw[←hD.out];exact h1)
     by_cases h2:Lib.hasPrefix r.data.toList [47,42]=true
     ·have h2':=hid (show Lib.hasPrefix (r[0]::r.data.toList.drop (0+1)) [47,42]=true from by rw[←hD.out];exact h2)
      have CD:2≤r.size:=by have:=Lib.hasPrefix_le h2;simpa using this
      have bP:=fun wx hm=>Tryz.strings_Index (r.extract 2 r.size) ⟨#[42,47]⟩ m wx (by simp;omega) hm
      rw[QJc]at bP
      have pD:=Lib.index_ge (r.data.toList.drop 2) [42,47]
      have vu:=Lib.index_room (r.data.toList.drop 2) [42,47]
      have HX:Hid (∀x,Lib.index (r.data.toList.drop 2) [42,47]=x→Lib.index ((r[0]::r.data.toList.drop (0+1)).drop 2) [42,47]=x):=by intro x hx;rw[←hD.out];exact hx
      change ∀wx hm,Calls _ _ _ _ fun e w'=>e = .returned (.int .i64 (Lib.index (r.data.toList.drop 2) [42,47]))∧_ at bP
      generalize hxi:Lib.index (r.data.toList.drop 2) [42,47]=xi at bP pD vu
      have Ay:=hid hxi;clear hxi
      have fG:=hid bP;clear bP
      by_cases hneg:xi<0
      ·have Kg:=hid (show B=(j-i,true)from by rw[HE.out,←Mt.out,hD.out,Qus HS.out h1'.out h2'.out (by rw[HX.out _ Ay.out];exact hneg)];simp)
       clear vu
       go_wp2_with fail
       refine(Jl.out _ hH).mono ?_
       rintro e w1 ⟨rfl,nd,rfl⟩
       go_wp2_with (first | (go_at_call 131;refine(Tryz.strings_IndexByte _ _ _).mono ?_;rintro e w' ⟨rfl,rfl⟩) | (go_at_call 124;refine(Tryz.strings_HasPrefix _ _ _).mono ?_;rintro e w' ⟨rfl,rfl⟩) | (go_at_call 185;refine(fG.out _ (by exact hm)).mono ?_;rintro e w' ⟨rfl,rfl⟩))
       go_ret
       exact Qwh kt HA.out Kg.out HB.out (hH.drewN nd) (gf.out nd) rfl
      ·obtain⟨n,rfl⟩:∃n:Nat,xi=n:=⟨xi.toNat,by omega⟩
       have Kg:=hid (show B=((blk f (s.data.toList.drop (j+(n+4)))).1+(n+4)+(j-i),(blk f (s.data.toList.drop (j+(n+4)))).2)from by
        rw[HE.out,←List.drop_drop,←Mt.out,hD.out,Q1q HS.out h1'.out h2'.out n (HX.out _ Ay.out)])
       have pH:j+(n+4)≤s.size:=by have q:=vu (by omega);have q2:=kr.out;simp at q;omega
       clear vu
       go_wp2_with fail
       refine(Jl.out _ hH).mono ?_
       rintro e w1 ⟨rfl,nd,rfl⟩
       go_wp2_with (first | (go_at_call 131;refine(Tryz.strings_IndexByte _ _ _).mono ?_;rintro e w' ⟨rfl,rfl⟩) | (go_at_call 124;refine(Tryz.strings_HasPrefix _ _ _).mono ?_;rintro e w' ⟨rfl,rfl⟩) | (go_at_call 185;refine(fG.out _ (by exact hm)).mono ?_;rintro e w' ⟨rfl,rfl⟩))
       refine(qD.out (n+4) (by omega) _ (hH.drewN nd)).mono ?_
       rintro e w1 ⟨rfl,mb,Gg⟩
       go_wp2_with fail
       go_roundg f
       case measure=>omega
       case rel=>exact Qxh kt (by omega) (by omega) GO Ge gM gB HA.out Kg.out mb ((gf.out nd).trans Gg (fun _ _ h=>h))
     ·have h2:Lib.hasPrefix r.data.toList [47,42]=false:=by simpa using h2
      have Kg:=hid (show B=(j-i,false)from by rw[HE.out,←Mt.out,hD.out,Q0q HS.out h1'.out (by rw[←hD.out];exact h2)];simp)
      go_wp2_with fail
      refine(Jl.out _ hH).mono ?_
      rintro e w1 ⟨rfl,nd,rfl⟩
      go_wp2_with (first | (go_at_call 131;refine(Tryz.strings_IndexByte _ _ _).mono ?_;rintro e w' ⟨rfl,rfl⟩) | (go_at_call 124;refine(Tryz.strings_HasPrefix _ _ _).mono ?_;rintro e w' ⟨rfl,rfl⟩))
      go_ret
      exact Qwh kt HA.out Kg.out HB.out (hH.drewN nd) (gf.out nd) rfl
  ·obtain rfl:j=s.size:=by omega
   have Kg:=hid (show B=(s.size-i,false)from by rw[HE.out,QOc s s.size (Nat.le_refl _)];cases gk <;> simp[blk])
   have he:s.extract s.size s.size=ByteArray.empty:=Qgh _ (by simp)
   rw[he]at GY
   have Jl:=hid GY;clear GY cx he
   have gf:Hid (∀nd,Qaa (· = b) w (wr.drewN nd)):=fun nd=>hK.drewN nd
   go_wp2_with fail
   refine(Jl.out _ hH).mono ?_
   rintro e w1 ⟨rfl,nd,rfl⟩
   go_wp2_with fail
   go_ret
   exact Qwh kt HA.out Kg.out HB.out (hH.drewN nd) (gf.out nd) rfl
end Go.Proofs.YtgaboghigefgbaaGreatDoor
