/- The contract of blanks of token. | Contracts of the reference of token: run, slashed. | Contracts of the reference of token: escape. -/
import Derived.Test.YtofhcgbihonckaaGreatY3
import Derived.Test.YtofhcgbihonckaaGreatY5
import Derived.Test.YtofhcgbihonckaaGreatY6
import Derived.Test.YtofhcgbihonckaaGreatY2
import Derived.Deep.LoopGhost
set_option linter.all false
set_option maxHeartbeats 8000000
namespace Go.Proofs.YtofhcgbihonckaaGreat
open Go.Lib (hid)
open Go.RowKit
theorem QTp{w:World}{b:Nat}{s:ByteArray}{i:Nat}{file line col:Int}{t:TypeId}(h:Qca w b (QRb s i file line col) t)(h0:Qhf w):b≠0:=by
 rintro rfl
 obtain⟨m,h0⟩:=h0
 have:=(h.cell 0).symm.trans h0
 simp[QRb]at this
def Qme(s:ByteArray)(i:Nat)(file line col:Int)(b:Nat)(w:World)(e:Ending)(w':World):Prop:=
 e = .returned (.int .i64 (if (blk (s.size-i) (s.data.toList.drop i)).2=true then 21 else 0))∧
 Qca w' b (QRb s (i+(blk (s.size-i) (s.data.toList.drop i)).1) file (adv ((s.data.toList.drop i).take (blk (s.size-i) (s.data.toList.drop i)).1) (line,col)).1 (adv ((s.data.toList.drop i).take (blk (s.size-i) (s.data.toList.drop i)).1) (line,col)).2) 98∧Qaa (· = b) w w'
theorem QIj(s:ByteArray)(i f:Nat)(hi:i≤s.size):i+(blk f (s.data.toList.drop i)).1≤s.size:=by
 have:=Qkp f (s.data.toList.drop i)
 simp at this;omega
theorem QDj(l:List UInt8)(i j n:Nat)(h:i≤j)(p:Int × Int):adv ((l.drop j).take n) (adv ((l.drop i).take (j-i)) p)=adv ((l.drop i).take (j+n-i)) p:=by
 rw[←Qyg]
 congr 1
 rw[show j+n-i=(j-i)+n from by omega,List.take_add,List.drop_drop,show i+(j-i)=j from by omega]
def Qiq(s:ByteArray)(i:Nat)(file line col:Int)(b:Nat)(w:World)(B:Nat × Bool)(f:Nat)(wr:World):Prop:=
 ∃j:Nat,∃l c:Int,i≤j∧j≤s.size∧s.size≤j+f∧1≤l∧l≤j+1∧1≤c∧c≤j+1∧B=((blk f (s.data.toList.drop j)).1+(j-i),(blk f (s.data.toList.drop j)).2)∧
  (l,c)=adv ((s.data.toList.drop i).take (j-i)) (line,col)∧Qca wr b (QRb s j file l c) 98∧Qaa (· = b) w wr
theorem QHf{s:ByteArray}{i:Nat}{file line col:Int}{b:Nat}{w w2:World}{B:Nat × Bool}{f j n:Nat}{l c:Int}(GH:i≤j)(aj:j+n≤s.size)(hf:s.size≤j+n+f)(Ks:1≤l)(KQ:l≤j+1)(mw:1≤c)(Kc:c≤j+1)
 (hA:(l,c)=adv ((s.data.toList.drop i).take (j-i)) (line,col)) (hB:B=((blk f (s.data.toList.drop (j+n))).1+n+(j-i),(blk f (s.data.toList.drop (j+n))).2))
 (hH:Qca w2 b (QRb s (j+n) file (adv ((s.data.toList.drop j).take n) (l,c)).1 (adv ((s.data.toList.drop j).take n) (l,c)).2) 98) (hK:Qaa (· = b) w w2):Qiq s i file line col b w B f w2:=by
 have Hm:=Qzg ((s.data.toList.drop j).take n) (l,c) Ks mw
 have kV:((s.data.toList.drop j).take n).length≤n:=by simp;omega
 refine⟨j+n,_,_,by omega,aj,hf,Hm.1,by simp at Hm;omega,Hm.2.1,by simp at Hm;omega,?_,?_,hH,hK⟩
 ·rw[hB];congr 1;omega
 ·rw[hA,QDj _ i j n GH]
theorem QGf{s:ByteArray}{i:Nat}{file line col:Int}{b:Nat}{w w2:World}{B:Nat × Bool}{j:Nat}{l c:Int}{x:Bool}{e:Ending}(GH:i≤j)
 (hA:(l,c)=adv ((s.data.toList.drop i).take (j-i)) (line,col)) (hB:B=(j-i,x)) (HB:blk (s.size-i) (s.data.toList.drop i)=B)
 (hH:Qca w2 b (QRb s j file l c) 98) (hK:Qaa (· = b) w w2) (he:e = .returned (.int .i64 (if x=true then 21 else 0))):Qme s i file line col b w e w2:=by
 unfold Qme
 rw[HB,hB]
 refine⟨he,?_,hK⟩
 simp only
 rw[←hA,show i+(j-i)=j from by omega]
 exact hH
theorem Q4k{f:Nat}{c:UInt8}{r:List UInt8}(h:QIi c.toNat=true):blk (f+1) (c::r)=((blk f r).1+1,(blk f r).2):=by simp[blk,h]
theorem QFj{f:Nat}{c:UInt8}{r:List UInt8}(h:QIi c.toNat=false)(h2:Lib.hasPrefix (c::r) [47,47]=true):blk (f+1) (c::r)=((blk f ((c::r).drop (QSa Qrb (c::r)))).1+QSa Qrb (c::r),(blk f ((c::r).drop (QSa Qrb (c::r)))).2):=by
 simp only[blk];rw[if_neg (by simp[h]),if_pos h2]
theorem Q3k{f:Nat}{c:UInt8}{r:List UInt8}(h:QIi c.toNat=false)(h2:Lib.hasPrefix (c::r) [47,47]=false)(h3:Lib.hasPrefix (c::r) [47,42]=true)(h4:Lib.index ((c::r).drop 2) [42,47]<0):blk (f+1) (c::r)=(0,true):=by
 simp only[blk];rw[if_neg (by simp[h]),if_neg (by simp[h2]),if_pos h3,if_pos h4]
theorem QHj{f:Nat}{c:UInt8}{r:List UInt8}(h:QIi c.toNat=false)(h2:Lib.hasPrefix (c::r) [47,47]=false)(h3:Lib.hasPrefix (c::r) [47,42]=true)(n:Nat)(h4:Lib.index ((c::r).drop 2) [42,47]=n):blk (f+1) (c::r)=((blk f ((c::r).drop (n+4))).1+(n+4),(blk f ((c::r).drop (n+4))).2):=by
 simp only[blk];rw[if_neg (by simp[h]),if_neg (by simp[h2]),if_pos h3,if_neg (by omega),h4];rfl
theorem QGj{f:Nat}{c:UInt8}{r:List UInt8}(h:QIi c.toNat=false)(h2:Lib.hasPrefix (c::r) [47,47]=false)(h3:Lib.hasPrefix (c::r) [47,42]=false):blk (f+1) (c::r)=(0,false):=by
 simp only[blk];rw[if_neg (by simp[h]),if_neg (by simp[h2]),if_neg (by simp[h3])]
theorem QBi(s:ByteArray)(i:Nat)(file line col:Int)(b:Nat)(w:World)(h:Qca w b (QRb s i file line col) 98)(hi:i≤s.size)(hs:s.size≤16000)
 (hl:1≤line) (hl':line≤i+1) (hc:1≤col) (hc':col≤i+1) (h0:Qhf w) :
 Calls Tryz.prog 48 #[.pointer (some ⟨b,0,none⟩)] w (Qme s i file line col b w):=by
 have gJ:=QTp h h0
 generalize hB:blk (s.size-i) (s.data.toList.drop i)=B
 have HB:=hid hB;clear hB
 go_enter Tryz.func48,Tryz.ntmps48
 go_wp2_with fail
 go_loopg [] (s.size-i) (fun f wr=>Qiq s i file line col b w B f wr)
 case atStart=>exact⟨i,line,col,by omega,hi,by omega,hl,hl',hc,hc',by rw[HB.out];simp,by simp[adv],h,Qaa.refl _ _⟩
 case round=>
  obtain⟨j,l,c,GH,hj,hf,Ks,KQ,mw,Kc,hE,hA,hH,hK⟩:=hrel
  have HE:=hid hE;clear hE
  have HA:=hid hA;clear hA
  have G5:=fun wx hh=>QWg s j file l c b wx hh hj (by unfold maxLen;omega)
  have aG:=fun n hn wx hh=>Q0g s j n file l c b wx hh hn (by omega) Ks KQ mw Kc
  by_cases Hj:j<s.size
  ·have Hz:(s.extract j s.size).size=s.size-j:=by simp
   have gG:=QAb s j
   obtain⟨m,hm⟩:=h0.keeps hK (fun e=>gJ e.symm)
   generalize s.extract j s.size=r at G5 Hz gG
   have mY:0<r.size:=by omega
   have Mh:r.size≤16000:=by omega
   have hD:=hid ((List.drop_zero (l:=r.data.toList)).symm.trans (Qxa r 0 mY))
   have M9:=hid gG;clear gG
   have Gq:=hid Hz;clear Hz
   have jO:=hid G5;clear G5
   have dj:=hid aG;clear aG
   obtain⟨f,rfl⟩:∃f',gk=f'+1:=⟨gk-1,by omega⟩
   have Hq:=QIc r mY
   have Je:=Qvb r mY
   have ga:Hid (∀nd,Qaa (· = b) w (wr.drewN nd)):=fun nd=>hK.drewN nd
   by_cases kH:QIi r[0].toNat=true
   ·have kp:=hid (show B=((blk f (s.data.toList.drop (j+1))).1+1+(j-i),(blk f (s.data.toList.drop (j+1))).2)from by rw[HE.out,←M9.out,hD.out,Q4k kH,show r.data.toList.drop (0+1)=s.data.toList.drop (j+1)from by rw[M9.out,List.drop_drop]])
    have hx:0≤Lib.indexByte [32,9,13,10] r[0]:=by have:=Qre [32,9,13,10] r[0];unfold QIi at kH;rw[kH]at this;simpa using this
    clear kH
    go_wp2_with fail
    refine(jO.out _ hH).mono ?_
    rintro e w1 ⟨rfl,nd,rfl⟩
    go_wp2_with (go_at_call 79;refine(Tryz.strings_IndexByte _ _ _).mono ?_;rintro e w' ⟨rfl,rfl⟩)
    refine(dj.out 1 (by omega) _ (hH.drewN nd)).mono ?_
    rintro e w1 ⟨rfl,G1,gZ⟩
    go_wp2_with fail
    go_roundg f
    case measure=>omega
    case rel=>exact QHf GH (by omega) (by omega) Ks KQ mw Kc HA.out kp.out G1 ((ga.out nd).trans gZ (fun _ _ h=>h))
   ·have kH:QIi r[0].toNat=false:=by simpa using kH
    have hx:Lib.indexByte [32,9,13,10] r[0]<0:=by have:=Qre [32,9,13,10] r[0];unfold QIi at kH;rw[kH]at this;simpa using this
    have HS:=hid kH;clear kH
    by_cases h1:Lib.hasPrefix r.data.toList [47,47]=true
    ·have kp:=hid (show B=((blk f (s.data.toList.drop (j+QSa Qrb r.data.toList))).1+QSa Qrb r.data.toList+(j-i),(blk f (s.data.toList.drop (j+QSa Qrb r.data.toList))).2)from by
      have h1':=h1
      rw[hD.out]at h1'
      rw[HE.out,←List.drop_drop,←M9.out,hD.out,QFj HS.out h1'])
     have gH:=fun wx=>Qgg r 0 82 Qrb wx Quj Q3h (by unfold maxLen;omega) (by omega)
     rw[List.drop_zero]at gH
     have mZ:=Qnc Qrb r.data.toList
     have M3:1≤QSa Qrb r.data.toList:=by
      have h1':=h1
      rw[hD.out]at h1'
      have e0:r[0]=47:=by simp[Lib.hasPrefix]at h1';exact h1'.1.symm
      rw[hD.out,QEb,if_pos (by rw[e0];decide)];omega
     generalize QSa Qrb r.data.toList=n at kp gH mZ M3
     have hrl2:j+n≤s.size:=by have:=Gq.out;simp at mZ;omega
     have HU:=hid gH;clear gH mZ
     go_wp2_with fail
     refine(jO.out _ hH).mono ?_
     rintro e w1 ⟨rfl,nd,rfl⟩
     go_wp2_with (first | (go_at_call 79;refine(Tryz.strings_IndexByte _ _ _).mono ?_;rintro e w' ⟨rfl,rfl⟩) | (go_at_call 80;refine(Tryz.strings_HasPrefix _ _ _).mono ?_;rintro e w' ⟨rfl,rfl⟩) | (go_at_call 81;refine(HU.out _).mono ?_;rintro e w' ⟨rfl,rfl⟩))
     refine(dj.out n (by omega) _ (hH.drewN nd)).mono ?_
     rintro e w1 ⟨rfl,G1,gZ⟩
     go_wp2_with fail
     go_roundg f
     case measure=>omega
     case rel=>exact QHf GH (by omega) (by omega) Ks KQ mw Kc HA.out kp.out G1 ((ga.out nd).trans gZ (fun _ _ h=>h))
    ·have h1:Lib.hasPrefix r.data.toList [47,47]=false:=by simpa using h1
     have h1':=hid (show Lib.hasPrefix (r[0]::r.data.toList.drop (0+1)) [47,47]=false from by rw[←hD.out];exact h1)
     by_cases h2:Lib.hasPrefix r.data.toList [47,42]=true
     ·have h2':=hid (show Lib.hasPrefix (r[0]::r.data.toList.drop (0+1)) [47,42]=true from by rw[←hD.out];exact h2)
      have dC:2≤r.size:=by have:=Lib.hasPrefix_le h2;simpa using this
      have M1:=fun wx hm=>Tryz.strings_Index (r.extract 2 r.size) ⟨#[42,47]⟩ m wx (by simp;omega) hm
      rw[QAb]at M1
      have MM:=Lib.index_ge (r.data.toList.drop 2) [42,47]
      have kM:=Lib.index_room (r.data.toList.drop 2) [42,47]
      have HX:Hid (∀x,Lib.index (r.data.toList.drop 2) [42,47]=x→Lib.index ((r[0]::r.data.toList.drop (0+1)).drop 2) [42,47]=x):=by intro x hx;rw[←hD.out];exact hx
      change ∀wx hm,Calls _ _ _ _ fun e w'=>e = .returned (.int .i64 (Lib.index (r.data.toList.drop 2) [42,47]))∧_ at M1
      generalize hxi:Lib.index (r.data.toList.drop 2) [42,47]=xi at M1 MM kM
      have rb:=hid hxi;clear hxi
      have eZ:=hid M1;clear M1
      by_cases hneg:xi<0
      ·have kp:=hid (show B=(j-i,true)from by rw[HE.out,←M9.out,hD.out,Q3k HS.out h1'.out h2'.out (by rw[HX.out _ rb.out];exact hneg)];simp)
       clear kM
       go_wp2_with fail
       refine(jO.out _ hH).mono ?_
       rintro e w1 ⟨rfl,nd,rfl⟩
       go_wp2_with (first | (go_at_call 79;refine(Tryz.strings_IndexByte _ _ _).mono ?_;rintro e w' ⟨rfl,rfl⟩) | (go_at_call 80;refine(Tryz.strings_HasPrefix _ _ _).mono ?_;rintro e w' ⟨rfl,rfl⟩) | (go_at_call 83;refine(eZ.out _ (by exact hm)).mono ?_;rintro e w' ⟨rfl,rfl⟩))
       go_ret
       exact QGf GH HA.out kp.out HB.out (hH.drewN nd) (ga.out nd) rfl
      ·obtain⟨n,rfl⟩:∃n:Nat,xi=n:=⟨xi.toNat,by omega⟩
       have kp:=hid (show B=((blk f (s.data.toList.drop (j+(n+4)))).1+(n+4)+(j-i),(blk f (s.data.toList.drop (j+(n+4)))).2)from by
        rw[HE.out,←List.drop_drop,←M9.out,hD.out,QHj HS.out h1'.out h2'.out n (HX.out _ rb.out)])
       have aj:j+(n+4)≤s.size:=by have q:=kM (by omega);have q2:=Gq.out;simp at q;omega
       clear kM
       go_wp2_with fail
       refine(jO.out _ hH).mono ?_
       rintro e w1 ⟨rfl,nd,rfl⟩
       go_wp2_with (first | (go_at_call 79;refine(Tryz.strings_IndexByte _ _ _).mono ?_;rintro e w' ⟨rfl,rfl⟩) | (go_at_call 80;refine(Tryz.strings_HasPrefix _ _ _).mono ?_;rintro e w' ⟨rfl,rfl⟩) | (go_at_call 83;refine(eZ.out _ (by exact hm)).mono ?_;rintro e w' ⟨rfl,rfl⟩))
       refine(dj.out (n+4) (by omega) _ (hH.drewN nd)).mono ?_
       rintro e w1 ⟨rfl,G1,gZ⟩
       go_wp2_with fail
       go_roundg f
       case measure=>omega
       case rel=>exact QHf GH (by omega) (by omega) Ks KQ mw Kc HA.out kp.out G1 ((ga.out nd).trans gZ (fun _ _ h=>h))
     ·have h2:Lib.hasPrefix r.data.toList [47,42]=false:=by simpa using h2
      have kp:=hid (show B=(j-i,false)from by rw[HE.out,←M9.out,hD.out,QGj HS.out h1'.out (by rw[←hD.out];exact h2)];simp)
      go_wp2_with fail
      refine(jO.out _ hH).mono ?_
      rintro e w1 ⟨rfl,nd,rfl⟩
      go_wp2_with (first | (go_at_call 79;refine(Tryz.strings_IndexByte _ _ _).mono ?_;rintro e w' ⟨rfl,rfl⟩) | (go_at_call 80;refine(Tryz.strings_HasPrefix _ _ _).mono ?_;rintro e w' ⟨rfl,rfl⟩))
      go_ret
      exact QGf GH HA.out kp.out HB.out (hH.drewN nd) (ga.out nd) rfl
  ·obtain rfl:j=s.size:=by omega
   have kp:=hid (show B=(s.size-i,false)from by rw[HE.out,Q9a s s.size (Nat.le_refl _)];cases gk <;> simp[blk])
   have he:s.extract s.size s.size=ByteArray.empty:=QMd _ (by simp)
   rw[he]at G5
   have jO:=hid G5;clear G5 aG he
   have ga:Hid (∀nd,Qaa (· = b) w (wr.drewN nd)):=fun nd=>hK.drewN nd
   go_wp2_with fail
   refine(jO.out _ hH).mono ?_
   rintro e w1 ⟨rfl,nd,rfl⟩
   go_wp2_with fail
   go_ret
   exact QGf GH HA.out kp.out HB.out (hH.drewN nd) (ga.out nd) rfl
theorem Qfl(s:ByteArray)(n:Nat)(h:n<s.size):s.data.toList.getD n 0=s[n]:=by
 rw[List.getD_eq_getElem?_getD,List.getElem?_eq_getElem (by simpa using h)];rfl
def Q2p(nm:Bool)(c:Int):Bool:=if nm=true then Q2a c else QIa c
theorem QEh{p:Int→Bool}{s:ByteArray}{a k:Nat}{R:Nat}(h:a+k<s.size)(hR:R=QSa p (s.data.toList.drop (a+k))+k)(hp:p s[a+k].toNat=true):R=QSa p (s.data.toList.drop (a+(k+1)))+(k+1):=by
 rw[hR,Qxa s _ h,QEb,if_pos hp,Nat.add_assoc a k 1];omega
theorem Qdm{p:Int→Bool}{s:ByteArray}{a k:Nat}{R:Nat}(h:a+k<s.size)(hR:R=QSa p (s.data.toList.drop (a+k))+k)(hp:p s[a+k].toNat=false):R=k:=by
 rw[hR,Qxa s _ h,QEb,if_neg (by simp[hp])];omega
theorem Qcm{p:Int→Bool}{s:ByteArray}{a k:Nat}{R:Nat}(h:s.size≤a+k)(hR:R=QSa p (s.data.toList.drop (a+k))+k):R=k:=by
 rw[hR,Q9a s _ h];simp[QSa]
theorem Qlj(s:ByteArray)(a:Nat)(nm:Bool)(w:World)(hs:s.size≤140737488355328)(ha:a≤s.size) :
 Calls Tryz.prog 100 #[.string s,.int .i64 a,.bool nm] w fun e w'=>e = .returned (.int .i64 (QSa (Q2p nm) (s.data.toList.drop a)))∧w=w':=by
 generalize hR:QSa (Q2p nm) (s.data.toList.drop a)=R
 have HR:=hid hR;clear hR
 go_enter Tryz.func100,Tryz.ntmps100
 go_wp2
 go_loopg [7] (s.size) (fun f i wr=>∃k:Nat,a+k≤s.size∧s.size≤a+k+f∧i = .int .i64 k∧Hid (R=QSa (Q2p nm) (s.data.toList.drop (a+k))+k)∧w=wr)
 case atStart=>exact⟨0,by omega,by omega,rfl,HR.out.symm,rfl⟩
 case round=>
  obtain⟨k,hk,hf,rfl,hB,rfl⟩:=hrel
  by_cases Hj:a+k<s.size
  ·cases nm
   ·cases hw:QIa s[a+k].toNat
    ·have hF:=hid (Qdm Hj hB.out hw)
     go_wp2_with (first | (go_at_call 126;refine(QPc _ _).mono ?_;rintro e w' ⟨rfl,rfl⟩))
     go_ret
     exact⟨QDb (by rw[hF.out]),rfl⟩
    ·have hF:=hid (QEh Hj hB.out hw)
     go_wp2_with (first | (go_at_call 126;refine(QPc _ _).mono ?_;rintro e w' ⟨rfl,rfl⟩))
     go_roundg (gk-1)
     case measure=>omega
     case rel=>exact⟨k+1,by omega,by omega,by go_num,hF.out,rfl⟩
   ·cases hw:QIa s[a+k].toNat
    ·cases hn:Q2a s[a+k].toNat
     ·have hF:=hid (Qdm Hj hB.out hn)
      go_wp2_with (first | (go_at_call 126;refine(QPc _ _).mono ?_;rintro e w' ⟨rfl,rfl⟩) | (go_at_call 127;refine(Qzf _ _).mono ?_;rintro e w' ⟨rfl,rfl⟩))
      go_ret
      exact⟨QDb (by rw[hF.out]),rfl⟩
     ·have hF:=hid (QEh Hj hB.out hn)
      go_wp2_with (first | (go_at_call 126;refine(QPc _ _).mono ?_;rintro e w' ⟨rfl,rfl⟩) | (go_at_call 127;refine(Qzf _ _).mono ?_;rintro e w' ⟨rfl,rfl⟩))
      go_roundg (gk-1)
      case measure=>omega
      case rel=>exact⟨k+1,by omega,by omega,by go_num,hF.out,rfl⟩
    ·have hF:=hid (QEh Hj hB.out (by unfold Q2p;rw[if_pos rfl];unfold Q2a;rw[hw];rfl))
     go_wp2_with (first | (go_at_call 126;refine(QPc _ _).mono ?_;rintro e w' ⟨rfl,rfl⟩))
     go_roundg (gk-1)
     case measure=>omega
     case rel=>exact⟨k+1,by omega,by omega,by go_num,hF.out,rfl⟩
  ·have hF:=hid (Qcm (by omega) hB.out)
   go_wp2_with fail
   go_ret
   exact⟨QDb (by rw[hF.out]),rfl⟩
def QEc(l:List UInt8):Nat:=if QSa QQa (l.drop 1) > 0∧QSa QQa (l.drop 1)+1<l.length∧(l.getD (QSa QQa (l.drop 1)+1) 0).toNat=47 then QSa QQa (l.drop 1)+2 else 0
theorem Qvi{s:ByteArray}{a k R:Nat}(ha:a<s.size)(hR:QEc (s.data.toList.drop a)=R)(hk:QSa QQa (s.data.toList.drop (a+1))+1=k) :
 (¬1<k∧Hid (R=0))∨(1<k∧¬a+k<s.size∧Hid (R=0))∨(∃h:a+k<s.size,1<k∧((s[a+k].toNat:Int) == 47)=true∧Hid (R=k+1))∨(∃h:a+k<s.size,1<k∧((s[a+k].toNat:Int) == 47)=false∧Hid (R=0)):=by
 subst hk
 unfold QEc at hR
 rw[List.drop_drop]at hR
 generalize QSa QQa (s.data.toList.drop (a+1))=n at hR
 have hl:(s.data.toList.drop a).length=s.size-a:=by simp
 rw[hl]at hR
 by_cases h1:0<n
 ·by_cases h2:a+(n+1)<s.size
  ·have hg:(s.data.toList.drop a).getD (n+1) 0=s[a+(n+1)]:=by
    rw[←Qfl s (a+(n+1)) h2,List.getD_eq_getElem?_getD,List.getD_eq_getElem?_getD,List.getElem?_drop]
   rw[hg]at hR
   by_cases h3:s[a+(n+1)].toNat=47
   ·rw[if_pos ⟨h1,by omega,h3⟩]at hR
    exact .inr (.inr (.inl ⟨h2,by omega,by simp[h3],by show _=_;omega⟩))
   ·rw[if_neg (by rintro ⟨_,_,h⟩;exact h3 h)]at hR
    exact .inr (.inr (.inr ⟨h2,by omega,by simp;omega,by show _=_;omega⟩))
  ·rw[if_neg (by omega)]at hR
   exact .inr (.inl ⟨by omega,h2,hR.symm⟩)
 ·rw[if_neg (by omega)]at hR
  exact .inl ⟨by omega,hR.symm⟩
theorem Qbg(s:ByteArray)(a:Nat)(w:World)(hs:s.size≤140737488355328)(ha:a<s.size) :
 Calls Tryz.prog 104 #[.string s,.int .i64 a] w fun e w'=>e = .returned (.int .i64 (QEc (s.data.toList.drop a)))∧w=w':=by
 generalize hR:QEc (s.data.toList.drop a)=R
 have HR:=hid hR;clear hR
 generalize hM:QSa QQa (s.data.toList.drop (a+1))+1=M
 have HM:=hid hM;clear hM
 go_enter Tryz.func104,Tryz.ntmps104
 go_wp2
 go_loopg [5] (s.size) (fun f i wr=>∃k:Nat,1≤k∧a+k≤s.size∧s.size≤a+k+f∧i = .int .i64 k∧Hid (M=QSa QQa (s.data.toList.drop (a+k))+k)∧w=wr)
 case atStart=>exact⟨1,by omega,by omega,by omega,rfl,HM.out.symm,rfl⟩
 case round=>
  obtain⟨k,Ht,hk,hf,rfl,hB,rfl⟩:=hrel
  by_cases Hj:a+k<s.size
  ·have hb:=QLb s[a+k]
   by_cases Jh:QQa s[a+k].toNat=true
   ·have hF:=hid (QEh Hj hB.out Jh)
    have gO:97≤(s[a+k].toNat:Int)∧(s[a+k].toNat:Int)≤122∨(s[a+k].toNat:Int)<97∧((s[a+k].toNat:Int) == 45)=true:=by
     unfold QQa at Jh;simp only[decide_eq_true_eq,beq_iff_eq]at Jh ⊢;omega
    clear Jh
    rcases gO with⟨c1,c2⟩|⟨c1,c2⟩
    all_goals
     go_wp2_with fail
     go_roundg (gk-1)
     case measure=>omega
     case rel=>exact⟨k+1,by omega,by omega,by omega,by go_num,hF.out,rfl⟩
   ·have Jh:QQa s[a+k].toNat=false:=by simpa using Jh
    have hF:=Qdm Hj hB.out Jh
    have gO:(97≤(s[a+k].toNat:Int)∧122<(s[a+k].toNat:Int)∧((s[a+k].toNat:Int) == 45)=false)∨(s[a+k].toNat:Int)<97∧((s[a+k].toNat:Int) == 45)=false:=by
     unfold QQa at Jh;simp only[decide_eq_false_iff_not,beq_eq_false_iff_ne]at Jh ⊢;omega
    clear Jh
    have pM:=Qvi ha HR.out (HM.out.trans hF)
    clear hF
    rcases gO with⟨c1,c2,c3⟩|⟨c1,c2⟩
    all_goals
     rcases pM with⟨e1,hF⟩|⟨e1,e2,hF⟩|⟨_,e1,e2,hF⟩|⟨_,e1,e2,hF⟩
     all_goals first
     | (exfalso;omega)
     | (go_wp2_with fail
        go_ret
        exact⟨QDb (by rw[hF.out];rfl),rfl⟩)
  ·have hF:=Qcm (by omega) hB.out
   have pM:=Qvi ha HR.out (HM.out.trans hF)
   clear hF
   rcases pM with⟨e1,hF⟩|⟨e1,e2,hF⟩|⟨_,e1,e2,hF⟩|⟨_,e1,e2,hF⟩
   all_goals first
   | (exfalso;omega)
   | (go_wp2_with fail
      go_ret
      exact⟨QDb (by rw[hF.out];rfl),rfl⟩)
def Qnq(E:Int × Nat × Int):Value:=.tuple #[.int .u8 E.1,.int .i64 (if E.2.2=0 then(E.2.1:Int)+1 else 0),.int .i64 E.2.2]
theorem QHm{c:Int}(h:Qjc c<0):QOf c=99:=by unfold QOf;rw[if_pos h]
theorem QIm{c:Int}(h:¬Qjc c<0):QOf c=Qjc c:=by unfold QOf;rw[if_neg h]
theorem Qzk(s:ByteArray)(i:Nat)(w:World)(hs:s.size≤140737488355328)(hi:i<s.size) :
 Calls Tryz.prog 129 #[.string s,.int .i64 i] w fun e w'=>e = .returned (Qnq (esc (s.data.toList.drop (i+1))))∧∃n,w'=w.drewN n:=by
 generalize hE:esc (s.data.toList.drop (i+1))=E
 have HE:=hid hE;clear hE
 by_cases Hj:i+1<s.size
 ·have hD:=Qxa s (i+1) Hj
  by_cases gY:s[i+1].toNat=10
  ·have kO:((s[i+1].toNat:Int) == 10)=true:=by simp[gY]
   have hF:=hid (show E=(0,0,21)from by rw[←HE.out,hD];simp[esc,gY])
   clear gY hD
   go_enter Tryz.func129,Tryz.ntmps129
   go_wp2_with fail
   go_ret3
   exact⟨by rw[hF.out];rfl,0,rfl⟩
  ·have kO:((s[i+1].toNat:Int) == 10)=false:=by simp;omega
   have gO:((s[i+1].toNat:Int) == 110)=true∧Hid (E=(10,1,0))∨
    ((s[i+1].toNat:Int) == 110)=false∧((s[i+1].toNat:Int) == 116)=true∧Hid (E=(9,1,0))∨
    ((s[i+1].toNat:Int) == 110)=false∧((s[i+1].toNat:Int) == 116)=false∧((s[i+1].toNat:Int) == 34)=true∧Hid (E=((s[i+1].toNat:Int),1,0))∨
    ((s[i+1].toNat:Int) == 110)=false∧((s[i+1].toNat:Int) == 116)=false∧((s[i+1].toNat:Int) == 34)=false∧((s[i+1].toNat:Int) == 92)=true∧Hid (E=((s[i+1].toNat:Int),1,0))∨
    ((s[i+1].toNat:Int) == 110)=false∧((s[i+1].toNat:Int) == 116)=false∧((s[i+1].toNat:Int) == 34)=false∧((s[i+1].toNat:Int) == 92)=false∧((s[i+1].toNat:Int) == 120)=false∧Hid (E=(0,0,6))∨
    ((s[i+1].toNat:Int) == 110)=false∧((s[i+1].toNat:Int) == 116)=false∧((s[i+1].toNat:Int) == 34)=false∧((s[i+1].toNat:Int) == 92)=false∧((s[i+1].toNat:Int) == 120)=true∧Hid (E=hx2 2 (s.data.toList.drop (i+2)) 0):=by
    have hF:E=if s[i+1].toNat=110 then(10,1,0)else if s[i+1].toNat=116 then(9,1,0)else if s[i+1].toNat=34 then(34,1,0)else if s[i+1].toNat=92 then(92,1,0)
     else if s[i+1].toNat≠120 then(0,0,6)else hx2 2 (s.data.toList.drop (i+2)) 0:=by rw[←HE.out,hD];simp only[esc];rw[if_neg gY]
    simp only[Hid,beq_iff_eq,beq_eq_false_iff_ne]
    split at hF
    ·left;exact⟨by omega,hF⟩
    ·split at hF
     ·right;left;exact⟨by omega,by omega,hF⟩
     ·split at hF
      ·right;right;left;exact⟨by omega,by omega,by omega,by rw[hF];congr 1;omega⟩
      ·split at hF
       ·right;right;right;left;exact⟨by omega,by omega,by omega,by omega,by rw[hF];congr 1;omega⟩
       ·split at hF
        ·right;right;right;right;left;exact⟨by omega,by omega,by omega,by omega,by omega,hF⟩
        ·right;right;right;right;right;exact⟨by omega,by omega,by omega,by omega,by omega,hF⟩
   clear gY hD
   rcases gO with⟨c1,hF⟩|⟨c1,c2,hF⟩|⟨c1,c2,c3,hF⟩|⟨c1,c2,c3,c4,hF⟩|⟨c1,c2,c3,c4,c5,hF⟩|⟨c1,c2,c3,c4,c5,hF⟩
   rotate_right
   ·go_enter Tryz.func129,Tryz.ntmps129
    go_wp2_with fail
    go_loopg [7,8] 3 (fun f x y wr=>∃k:Nat,∃v:Int,2≤k∧k≤4∧4≤k+f∧i+k≤s.size∧x = .int .i64 v∧y = .int .i64 k∧0≤v∧v*256<16 ^ k∧Hid (E=hx2 (4-k) (s.data.toList.drop (i+k)) v)∧w=wr)
    case atStart=>exact⟨2,0,by omega,by omega,by omega,by omega,rfl,rfl,by omega,by omega,hF,rfl⟩
    case round=>
     obtain⟨k,v,Ho,Hr,hf,uo,rfl,rfl,k8,GZ,hB,rfl⟩:=hrel
     by_cases h4:k<4
     ·by_cases ki:i+k<s.size
      ·have hD:=Qxa s (i+k) ki
       by_cases gY:s[i+k].toNat=10
       ·have kO:((s[i+k].toNat:Int) == 10)=true:=by simp[gY]
        have hF:=hid (show E=(0,0,21)from by rw[hB.out,hD,show 4-k=(3-k)+1 from by omega];simp[hx2,gY])
        clear gY hD
        go_wp2_with fail
        go_ret3
        exact⟨by rw[hF.out];rfl,0,rfl⟩
       ·have kO:((s[i+k].toNat:Int) == 10)=false:=by simp;omega
        have hF:E=if Qjc s[i+k].toNat<0 then(0,0,6)else hx2 (4-(k+1)) (s.data.toList.drop (i+(k+1))) (16*v+Qjc s[i+k].toNat):=by
         rw[hB.out,hD,show 4-k=(4-(k+1))+1 from by omega];simp only[hx2];rw[if_neg gY];rfl
        have K0:=fun wx=>Qag s[i+k].toNat wx (by omega) (QLb _)
        have Hm:=QVe s[i+k].toNat
        by_cases hx:Qjc s[i+k].toNat<0
        ·have j7:=hid (show E=(0,0,6)from by rw[hF,if_pos hx])
         rw[QHm hx]at K0
         clear gY hD hF hx Hm
         go_wp2_with (first | (go_at_call 128;refine(K0 _).mono ?_;rintro e w' ⟨rfl,rfl⟩))
         go_ret3
         exact⟨by rw[j7.out];rfl,0,rfl⟩
        ·rw[QIm hx]at K0
         have j7:=hid (show E=hx2 (4-(k+1)) (s.data.toList.drop (i+(k+1))) (16*v+Qjc s[i+k].toNat)from by rw[hF,if_neg hx])
         clear gY hD hF
         generalize Qjc s[i+k].toNat=dv at j7 K0 Hm hx
         have h99:(dv == 99)=false:=by rw[beq_eq_false_iff_ne];omega
         have aJ:v≤15:=by have:k=2∨k=3:=by omega
                          rcases this with rfl|rfl <;> omega
         have ko:k=2∨k=3:=by omega
         have gu:(v*16+dv)*256<16 ^ (k+1):=by rcases ko with rfl|rfl <;> omega
         clear ko
         have nt:=hid GZ;clear GZ
         have gP:=hid gu;clear gu
         go_wp2_with (first | (go_at_call 128;refine(K0 _).mono ?_;rintro e w' ⟨rfl,rfl⟩))
         go_roundg (gk-1)
         case measure=>omega
         case rel=>exact⟨k+1,v*16+dv,by omega,by omega,by omega,by omega,rfl,by go_num,by omega,gP.out,by have:=j7.out;rw[Int.mul_comm 16 v]at this;exact this,rfl⟩
      ·have hF:=hid (show E=(0,0,21)from by rw[hB.out,Q9a s _ (by omega),show 4-k=(3-k)+1 from by omega];rfl)
       go_wp2_with fail
       go_ret3
       exact⟨by rw[hF.out];rfl,0,rfl⟩
     ·obtain rfl:k=4:=by omega
      have hF:=hid (show E=(v,3,0)from by rw[hB.out];rfl)
      have bX:v≤255:=by omega
      clear GZ
      go_wp2_with fail
      go_ret3
      exact⟨by rw[hF.out];rfl,0,rfl⟩
   all_goals
    go_enter Tryz.func129,Tryz.ntmps129
    go_wp2_with fail
    go_ret3
    exact⟨by rw[hF.out];rfl,0,rfl⟩
 ·have hF:=hid (show E=(0,0,21)from by rw[←HE.out,Q9a s _ (by omega)];rfl)
  go_enter Tryz.func129,Tryz.ntmps129
  go_wp2_with fail
  go_ret3
  exact⟨by rw[hF.out];rfl,0,rfl⟩
end Go.Proofs.YtofhcgbihonckaaGreat
