/- Contracts of number and quoted of token. | The contract of next of token. | The contract of next of token: references and signs. | The contract of next of token: words, and all of it. | The contract of Read of token. | A row of tokens in memory, read. | Definitions in memory, as a call makes them: rows of definitions, of parts, of cells. -/
import Derived.Test.YtgaboghigefgbaaGreatDoorZ5
import Derived.Deep.DeepCutAuto
import Derived.Deep.CutBlock
import Derived.Test.YtgaboghigefgbaaGreatDoorZ7
import Derived.Test.YtgaboghigefgbaaGreatDoorZ6
import Derived.Test.YtgaboghigefgbaaGreatDoorZ14
import Derived.Test.YtgaboghigefgbaaGreatDoorZ13
set_option linter.all false
set_option maxHeartbeats 8000000
namespace Go.Proofs.YtgaboghigefgbaaGreatDoor
open Go.Lib (hid)
open Go.RowKit
theorem QWt{l:List UInt8}(h:Lib.hasPrefix l [48,120]=true):QRb l=(16,l.drop 2):=by unfold QRb;simp[h]
theorem QXt{l:List UInt8}(h:Lib.hasPrefix l [48,120]=false)(h1:1<l.length)(h2:((l.headD 0).toNat:Int)=48):QRb l=(8,l.drop 1):=by
 have h3:l.headD 0=48:=by
  apply UInt8.toNat_inj.1
  have:(l.headD 0).toNat=48:=by omega
  rw[this];rfl
 unfold QRb
 rw[if_neg (by simp[h]),if_pos ⟨h1,h3⟩]
theorem Qes{l:List UInt8}(h:Lib.hasPrefix l [48,120]=false)(h1:¬1<l.length∨((l.headD 0).toNat:Int)≠48):QRb l=(10,l):=by
 unfold QRb;rw[if_neg (by simp[h]),if_neg ?_];rintro ⟨a,b⟩;rcases h1 with h1|h1;exact h1 a;apply h1;rw[b];rfl
theorem Qcl(s:ByteArray)(w:World)(hs:s.size≤maxLen) :
 Calls Tryz.prog 194 #[.string s] w fun e w'=>e = .returned (.tuple #[.int .i64 (Q4l s.data.toList).1,.int .i64 (Q4l s.data.toList).2])∧∃n,w'=w.drewN n:=by
 unfold maxLen at hs
 go_enter Tryz.func194,Tryz.ntmps194
 go_upto_block 0 with fail
 have gw:=Q3l s.data.toList
 have jl:=QGk s.data.toList
 generalize hnp:QRb s.data.toList=np at gw jl
 have qo:=hid hnp;clear hnp
 obtain⟨base,dl⟩:=np
 obtain⟨Hb,Hc⟩:=gw
 simp only at Hb Hc jl
 go_cut [4,5] (fun b d wx=>∃dg:ByteArray,b = .int .i64 base∧d = .string dg∧Hid (dg.data.toList=dl)∧∃n,wx=w.drewN n)
 case first=>
  by_cases hp:Lib.hasPrefix s.data.toList [48,120]=true
  ·have Jw:=Lib.hasPrefix_le hp
   have yG:2≤s.size:=by simpa using Jw
   go_wp2_with (first | (go_at_call 124;refine(Tryz.strings_HasPrefix _ _ _).mono ?_;rintro e w' ⟨rfl,rfl⟩))
   go_quiet (fail)
   go_wp2
   go_meet
   case rel=>
    have e:=(QWt hp).symm.trans qo.out
    obtain⟨rfl,rfl⟩:=Prod.mk.inj e
    exact⟨_,rfl,rfl,QJc s 2,_,rfl⟩
  ·have hp:Lib.hasPrefix s.data.toList [48,120]=false:=by simpa using hp
   by_cases h1:1<s.size
   ·have hH:=hid (Qid s (by omega))
    by_cases h48:(s[0].toNat:Int)=48
    ·have wO:((s[0].toNat:Int) == 48)=true:=by simpa using h48
     have vE:=hid h48;clear h48
     go_wp2_with (first | (go_at_call 124;refine(Tryz.strings_HasPrefix _ _ _).mono ?_;rintro e w' ⟨rfl,rfl⟩))
     go_quiet (fail)
     go_wp2
     go_meet
     case rel=>
      have e:=(QXt hp (by simpa using h1) (by rw[hH.out];exact vE.out)).symm.trans qo.out
      obtain⟨rfl,rfl⟩:=Prod.mk.inj e
      exact⟨_,rfl,rfl,QJc s 1,_,rfl⟩
    ·have wO:((s[0].toNat:Int) == 48)=false:=by simpa using h48
     have vE:=hid h48;clear h48
     go_wp2_with (first | (go_at_call 124;refine(Tryz.strings_HasPrefix _ _ _).mono ?_;rintro e w' ⟨rfl,rfl⟩))
     go_meet
     case rel=>
      have e:=(Qes hp (.inr (by rw[hH.out];exact vE.out))).symm.trans qo.out
      obtain⟨rfl,rfl⟩:=Prod.mk.inj e
      exact⟨_,rfl,rfl,rfl,0,rfl⟩
   ·go_wp2_with (first | (go_at_call 124;refine(Tryz.strings_HasPrefix _ _ _).mono ?_;rintro e w' ⟨rfl,rfl⟩))
    go_meet
    case rel=>
     have e:=(Qes hp (.inl (by simpa using h1))).symm.trans qo.out
     obtain⟨rfl,rfl⟩:=Prod.mk.inj e
     exact⟨_,rfl,rfl,rfl,0,rfl⟩
 case rest=>
  obtain⟨dg,rfl,rfl,xY,n0,rfl⟩:=hcut
  have hT:=hid (show Q4l s.data.toList=if dl=[]then(0,6)else QYt (Qld base dl 0)from by unfold Q4l;rw[qo.out])
  have hlen:dg.size=dl.length:=by rw[←xY.out];simp
  have hds:dg.size≤9223372036854775807:=by rw[hlen];simp at jl;omega
  have HL:=hid hlen;clear hlen
  by_cases h0:dg.size=0
  ·obtain rfl:=Qgh dg h0
   have hF:=hid (show Q4l s.data.toList=(0,6)from by rw[hT.out,if_pos];rw[←xY.out];rfl)
   clear h0
   go_wp2_with fail
   go_ret2
   exact⟨by rw[hF.out];rfl,_,rfl⟩
  ·have h0:0<dg.size:=by omega
   have Hm:=QYe dg h0
   have kN:=QTc dg h0
   have Gx:=hid (show Q4l s.data.toList=QYt (Qld base dg.data.toList 0)from by rw[hT.out,xY.out,if_neg];intro e;have:=HL.out;subst e;simp only[List.length_nil]at this;omega)
   go_wp2_with fail
   go_loop [6,30] (fun x i=>∃k:Nat,∃n:Int,k≤dg.size∧i = .int .i64 k∧x = .int .i64 n∧0≤n∧n≤4294967296∧Hid (Qld base dg.data.toList 0=Qld base (dg.data.toList.drop k) n)) (fun _ i=>dg.size-(intOf i).toNat)
   case atStart=>exact⟨0,0,Nat.zero_le _,rfl,rfl,by omega,by omega,rfl⟩
   case round=>
    obtain⟨k,n,hk,rfl,rfl,Jz,JA,hE⟩:=hrel
    by_cases Hh:k<dg.size
    ·have Kz:=hid (show Qld base dg.data.toList 0=if Qwg dg[k].toNat<0∨base≤Qwg dg[k].toNat then none else Qld base (dg.data.toList.drop (k+1)) (min (n*base+Qwg dg[k].toNat) 4294967296)from by rw[hE.out,QCb dg k Hh];rfl)
     have gw:=Qrj dg[k].toNat
     have k9:0≤n*base:=Int.mul_nonneg Jz (by omega)
     have hnb2:n*base≤4294967296*16:=Int.mul_le_mul JA Hc (by omega) (by omega)
     by_cases hh:Qwg dg[k].toNat<0
     ·have hF:=hid (show Q4l s.data.toList=(0,6)from by rw[Gx.out,Kz.out,if_pos (.inl hh)];rfl)
      go_wp2_with (first | (go_at_call 211;refine(Qce _ _ (by omega) (Q0c _)).mono ?_;rintro e w' ⟨rfl,rfl⟩))
      go_ret2
      exact⟨by rw[hF.out];rfl,_,rfl⟩
     ·have hh:0≤Qwg dg[k].toNat:=by omega
      by_cases hg:base≤Qwg dg[k].toNat
      ·have hF:=hid (show Q4l s.data.toList=(0,6)from by rw[Gx.out,Kz.out,if_pos (.inr hg)];rfl)
       go_wp2_with (first | (go_at_call 211;refine(Qce _ _ (by omega) (Q0c _)).mono ?_;rintro e w' ⟨rfl,rfl⟩))
       go_ret2
       exact⟨by rw[hF.out];rfl,_,rfl⟩
      ·have hg:Qwg dg[k].toNat<base:=by omega
       have fW:=hid (show Qld base dg.data.toList 0=Qld base (dg.data.toList.drop (k+1)) (min (n*base+Qwg dg[k].toNat) 4294967296)from by rw[Kz.out,if_neg (by omega)])
       go_wp2_with (first | (go_at_call 211;refine(Qce _ _ (by omega) (Q0c _)).mono ?_;rintro e w' ⟨rfl,rfl⟩))
       go_round
       case rel=>exact⟨k+1,_,by omega,by go_num,rfl,by omega,by omega,fW⟩
       case measure=>simp[intOf];omega
    ·have Kz:=hid (show Qld base dg.data.toList 0=some n from by rw[hE.out,QOc dg k (by omega)];rfl)
     by_cases hg:4294967295<n
     ·have hF:=hid (show Q4l s.data.toList=(0,2)from by rw[Gx.out,Kz.out];unfold QYt;simp only;rw[if_pos (by omega)])
      go_wp2_with fail
      go_ret2
      exact⟨by rw[hF.out];rfl,_,rfl⟩
     ·have hF:=hid (show Q4l s.data.toList=(n,0)from by rw[Gx.out,Kz.out];unfold QYt;simp only;rw[if_neg (by omega)])
      go_wp2_with fail
      go_ret2
      exact⟨by rw[hF.out];rfl,_,rfl⟩
theorem Qqt(v:Int)(h0:0≤v)(h1:v≤255):((v.toNat.toUInt8).toNat:Int)=v:=by simp[Nat.toUInt8];omega
theorem Qpi(acc:List UInt8)(v:Int)(h0:0≤v)(h1:v≤255):Lib.byteCells acc++[.int .u8 v]=Lib.byteCells (acc++[v.toNat.toUInt8]):=by
 unfold Lib.byteCells;rw[List.map_append,List.map_singleton,Qqt v h0 h1]
theorem QCt(l:List UInt8):0≤(esc l).1∧(esc l).1≤255∧(esc l).2.1≤3∧(esc l).2.1≤l.length∧((esc l).2.2=0→1≤(esc l).2.1)∧(esc l).2.2≤21∧0≤(esc l).2.2:=by
 cases l with
 | nil=>simp[esc]
 | cons c r=>
  simp only[esc]
  repeat' (split;· simp)
  cases r with
  | nil=>simp[hx2]
  | cons a r=>
   simp only[hx2]
   repeat' (split;· simp)
   cases r with
   | nil=>simp[hx2]
   | cons b r=>
    have h1:=Qrj a.toNat
    have h2:=Qrj b.toNat
    simp only[hx2]
    repeat' (split;· simp)
    simp;omega
theorem Qdl(s:ByteArray)(w:World)(hs:s.size≤140737488355328)(h1:0<s.size) :
 Calls Tryz.prog 195 #[.string s] w fun e w'=>e = .returned (.tuple #[.string ⟨(qtA s.data.toList.length (s.data.toList.drop 1) [] 1).1.toArray⟩,.int .i64 (qtA s.data.toList.length (s.data.toList.drop 1) [] 1).2.1,.int .i64 (qtA s.data.toList.length (s.data.toList.drop 1) [] 1).2.2])∧Below w.heap.size w w':=by
 generalize hF:qtA s.data.toList.length (s.data.toList.drop 1) [] 1=R
 have HF:=hid hF;clear hF
 go_enter Tryz.func195,Tryz.ntmps195
 go_wp2_with fail
 go_loopw [6] (fun i wr=>∃(k f:Nat) (acc:List UInt8),1≤k∧k≤s.size∧s.size≤k+f∧acc.length<k∧i = .int .i64 k∧Hid (qtA f (s.data.toList.drop k) acc k=R)∧Lib.IsBuilder 231 5 w.heap.size w.heap.size (Lib.byteCells acc) wr∧Below w.heap.size w wr) (fun i _=>s.size-(intOf i).toNat)
 case atStart=>exact⟨1,s.data.toList.length,[],by omega,by omega,by simp,by simp,rfl,HF,Lib.fresh_isBuilder _ _ w,(Below.refl _ _).alloc (Nat.le_refl _) _⟩
 case round=>
  obtain⟨k,f,acc,gz,hk,hf,hacc,rfl,hE,hB,kL⟩:=hrel
  by_cases Hh:k<s.size
  ·obtain⟨f,rfl⟩:∃f',f=f'+1:=⟨f-1,by omega⟩
   have Kz:Hid (R=if s[k].toNat=34 then(acc,k+1,0)else if s[k].toNat=10 then([],0,21)else if s[k].toNat=92 then
    (if (esc (s.data.toList.drop (k+1))).2.2≠0 then([],0,(esc (s.data.toList.drop (k+1))).2.2)else qtA f ((s.data.toList.drop (k+1)).drop (esc (s.data.toList.drop (k+1))).2.1) (acc++[(esc (s.data.toList.drop (k+1))).1.toNat.toUInt8]) (k+(esc (s.data.toList.drop (k+1))).2.1+1))
    else qtA f (s.data.toList.drop (k+1)) (acc++[s[k]]) (k+1)):=by
    show _=_
    rw[←hE.out,QCb s k Hh];rfl
   have H3:=kL.size
   have gN:(Lib.byteCells acc).length+1≤140737488355328:=by unfold Lib.byteCells;simp;omega
   by_cases MP:s[k].toNat=34
   ·have lx:((s[k].toNat:Int) == 34)=true:=by simp[MP]
    have hR:=hid (show R=(acc,k+1,0)from by rw[Kz.out,if_pos MP])
    clear MP
    go_wp2_with (first | (go_at_call 212;refine(Tryz.Builder_String_any _ _ acc _ hB H3).mono ?_;rintro e w1 ⟨rfl,Hb⟩))
    go_ret3
    exact⟨by rw[hR.out];simp,kL.trans Hb⟩
   ·have lx:((s[k].toNat:Int) == 34)=false:=by simp;omega
    by_cases Gk:s[k].toNat=10
    ·have bm:((s[k].toNat:Int) == 10)=true:=by simp[Gk]
     have hR:=hid (show R=([],0,21)from by rw[Kz.out,if_neg MP,if_pos Gk])
     clear Gk MP
     go_wp2_with fail
     go_ret3
     exact⟨by rw[hR.out];rfl,kL⟩
    ·have bm:((s[k].toNat:Int) == 10)=false:=by simp;omega
     by_cases h92:s[k].toNat=92
     ·have wR:((s[k].toNat:Int) == 92)=true:=by simp[h92]
      have iq:=QCt (s.data.toList.drop (k+1))
      have bK:=fun wx=>Qbl (s.extract (k+1) s.size) wx (by simp[maxLen];omega)
      rw[QJc]at bK
      have hR:=hid (show R=(if (esc (s.data.toList.drop (k+1))).2.2≠0 then([],0,(esc (s.data.toList.drop (k+1))).2.2)else qtA f ((s.data.toList.drop (k+1)).drop (esc (s.data.toList.drop (k+1))).2.1) (acc++[(esc (s.data.toList.drop (k+1))).1.toNat.toUInt8]) (k+(esc (s.data.toList.drop (k+1))).2.1+1))from by rw[Kz.out,if_neg MP,if_neg Gk,if_pos h92])
      clear Kz h92 Gk MP
      generalize esc (s.data.toList.drop (k+1))=E at iq bK hR
      obtain⟨ev,en,ee⟩:=E
      obtain⟨g1,g2,g3,g4,g5,g6,g7⟩:=iq
      simp only[List.length_drop]at g1 g2 g3 g4 g5 g6 g7 bK hR
      have g4':en+(k+1)≤s.size:=by simp at g4;omega
      have HS:=hid bK;clear bK g4
      by_cases hz:ee=0
      ·subst hz
       have g5':=hid (g5 rfl);clear g5
       go_wp2_with (first | (go_at_call 213;refine(HS.out _).mono ?_;rintro e w1 ⟨rfl,nd,rfl⟩) | (go_at_call 214;refine(Qll _ _ (Lib.byteCells acc) ev _ (by exact hB) gN (by exact H3)).mono ?_;rintro e w1 ⟨rfl,Hb,Hc⟩))
       go_roundw
       case rel=>exact⟨k+en+1,f,acc++[ev.toNat.toUInt8],by omega,by omega,by omega,by simp;omega,by go_num,by have:=hR.out;rw[if_neg (by simp),List.drop_drop]at this;show _=_;rw[this,show k+1+en=k+en+1 from by omega],.inr (by rw[←Qpi acc ev g1 g2];exact Hb),(below_drewN kL nd).trans Hc⟩
       case measure=>simp[intOf];omega
      ·have hz':(ee != 0)=true:=by simpa using hz
       have HR:=hid (show R=([],0,ee)from by rw[hR.out,if_pos hz])
       clear hz g5
       go_wp2_with (first | (go_at_call 213;refine(HS.out _).mono ?_;rintro e w1 ⟨rfl,nd,rfl⟩))
       go_ret3
       exact⟨by rw[HR.out];rfl,below_drewN kL _⟩
     ·have wR:((s[k].toNat:Int) == 92)=false:=by simp;omega
      have hR:=hid (show R=qtA f (s.data.toList.drop (k+1)) (acc++[s[k]]) (k+1)from by rw[Kz.out,if_neg MP,if_neg Gk,if_neg h92])
      clear Kz h92 Gk MP
      go_wp2_with (first | (go_at_call 214;refine(Qll _ _ (Lib.byteCells acc) _ _ hB gN H3).mono ?_;rintro e w1 ⟨rfl,Hb,Hc⟩))
      go_roundw
      case rel=>exact⟨k+1,f,acc++[s[k]],by omega,by omega,by omega,by simp;omega,by go_num,hR.out.symm,.inr (by simpa[Lib.byteCells]using Hb),kL.trans Hc⟩
      case measure=>simp[intOf];omega
  ·have hR:=hid (show R=([],0,21)from by rw[←hE.out,QOc s k (by omega)];cases f <;> rfl)
   go_wp2_with fail
   go_ret3
   exact⟨by rw[hR.out];rfl,kL⟩
theorem QMd(s:ByteArray)(a b:Nat):s.extract a b=⟨((s.data.toList.take b).drop a).toArray⟩:=by
 apply ByteArray.ext
 apply Array.toList_inj.1
 rw[QOf]
theorem Q4i(s:ByteArray)(g:Nat)(p:Int→Bool)(w:World)(hp:QXj g p)(eg:∀args w,(callFunc g args).run Tryz.prog w = .ok (.enter g args) w)(hs:s.size≤maxLen) :
 Calls Tryz.prog 192 #[.string s,.int .i64 0,.func (.func g) #[] #[]] w fun e w'=>e = .returned (.int .i64 (QFc p s.data.toList))∧w=w':=
 Qki s 0 g p w hp eg hs (Nat.zero_le _)
theorem Q5i(s:ByteArray)(g:Nat)(p:Int→Bool)(w:World)(hp:QXj g p)(eg:∀args w,(callFunc g args).run Tryz.prog w = .ok (.enter g args) w)(hs:s.size≤maxLen)(h1:0<s.size) :
 Calls Tryz.prog 192 #[.string s,.int .i64 1,.func (.func g) #[] #[]] w fun e w'=>e = .returned (.int .i64 (QFc p (s.data.toList.drop 1)))∧w=w':=
 Qki s 1 g p w hp eg hs h1
def QHb(file:Int)(t:Tok):Value:=.agg #[.int .i64 t.kind,.string ⟨t.text.toArray⟩,.int .i64 t.value,.int .i64 file,.int .i64 t.line,.int .i64 t.col]
def Qzd(s:ByteArray)(w:World)(e:Ending)(w':World):Prop:=
 e = .returned (.tuple #[QHb 0 (QZb s.data.toList).1,.int .i64 (QZb s.data.toList).2.1,.int .i64 (QZb s.data.toList).2.2])∧Below w.heap.size w w'
theorem QTh(s:ByteArray):s.data.toList.length=s.size:=by simp
theorem Qvg(s:ByteArray)(n:Nat)(h:n<s.size):s.data.toList.getD n 0=s[n]:=by
 have:=QCb s n h
 rw[List.getD_eq_getElem?_getD,List.getElem?_eq_getElem (by simpa using h)];rfl
theorem QLp(s:ByteArray)(w:World)(hs:s.size≤140737488355328)(h1:0<s.size)(hc:QHa s[0].toNat=true∨(s[0].toNat:Int)=95∨(s[0].toNat:Int)=35) :
 Calls Tryz.prog 159 #[.string s] w (Qzd s w):=by
 have hm:s.size≤maxLen:=by unfold maxLen;omega
 have hH:=Qid s h1
 have hF:=hid (show QZb s.data.toList=if QFc QYb s.data.toList=s.data.toList.length∨(s.data.toList.getD (QFc QYb s.data.toList) 0).toNat≠58 then(⟨1,s.data.toList.take (QFc QYb s.data.toList),0,0,0⟩,QFc QYb s.data.toList,0)
  else if Qej QWb (s.data.toList.take (QFc QYb s.data.toList))=true then(⟨5,s.data.toList.take (QFc QYb s.data.toList),0,0,0⟩,QFc QYb s.data.toList+1,0)else(⟨0,[],0,0,0⟩,0,6)from by unfold QZb;simp only[hH];rw[if_pos hc])
 have Gw:=fun wx=>Q4i s 95 QYb wx QJg QEf hm
 have hn:=Qxe QYb s.data.toList
 have Ha:=fun wx=>QZe (s.extract 0 (QFc QYb s.data.toList)) 130 QWb wx Qbe Qgd (by unfold maxLen at *;simp;omega)
 rw[QOf,List.drop_zero]at Ha
 generalize QFc QYb s.data.toList=n at hF Gw hn Ha
 have HR:=hid Gw;clear Gw
 have HA:=hid Ha;clear Ha
 have hn':n≤s.size:=by simpa using hn
 clear hn hH
 have H7:QHa s[0].toNat=true∨QHa s[0].toNat=false∧((s[0].toNat:Int) == 95)=true∨QHa s[0].toNat=false∧((s[0].toNat:Int) == 95)=false∧((s[0].toNat:Int) == 35)=true:=by
  by_cases a:QHa s[0].toNat=true
  ·exact .inl a
  ·have a':QHa s[0].toNat=false:=by simpa using a
   by_cases b:(s[0].toNat:Int)=95
   ·exact .inr (.inl ⟨a',by simpa using b⟩)
   ·have c:(s[0].toNat:Int)=35:=by rcases hc with h|h|h;exact absurd h a;exact absurd h b;exact h
    exact .inr (.inr ⟨a',by simpa using b,by simpa using c⟩)
 clear hc
 by_cases KQ:n=s.size
 ·have hR:=hid (show QZb s.data.toList=(⟨1,s.data.toList.take n,0,0,0⟩,n,0)from by rw[hF.out,if_pos (.inl (by simpa using KQ))])
  have yQ:((n:Int) == (s.size:Int))=true:=by simp;omega
  clear KQ
  rcases H7 with h|⟨h,h'⟩|⟨h,h',h''⟩
  all_goals
   go_enter Tryz.func159,Tryz.ntmps159
   go_wp2_with (first | (go_at_call 93;refine(QKa _ _).mono ?_;rintro e w' ⟨rfl,rfl⟩) | (go_at_call 192;refine(HR.out _).mono ?_;rintro e w' ⟨rfl,rfl⟩))
   exact bodyPost_ret (v:=.tuple #[.agg #[.int .i64 1,.string (s.extract 0 n),.int .i64 0,.int .i64 0,.int .i64 0,.int .i64 0],.int .i64 n,.int .i64 0]) (by simp[results,Tryz.results159,go_sem]) rfl ⟨by rw[hR.out,QMd];rfl,(Below.refl _ _).alloc (Nat.le_refl _) _⟩
 ·have Hh:n<s.size:=by omega
  have yQ:((n:Int) == (s.size:Int))=false:=by simp;omega
  have hg:=Qvg s n Hh
  by_cases ly:s[n].toNat=58
  ·have wP:((s[n].toNat:Int) != 58)=false:=by simp[ly]
   by_cases hw:Qej QWb (s.data.toList.take n)=true
   ·have hR:=hid (show QZb s.data.toList=(⟨5,s.data.toList.take n,0,0,0⟩,n+1,0)from by rw[hF.out,if_neg,if_pos hw];rintro (h|h);exact KQ (by simpa using h);rw[hg]at h;exact h ly)
    clear KQ ly hg
    rcases H7 with h|⟨h,h'⟩|⟨h,h',h''⟩
    all_goals
     go_enter Tryz.func159,Tryz.ntmps159
     go_wp2_with (first | (go_at_call 93;refine(QKa _ _).mono ?_;rintro e w' ⟨rfl,rfl⟩) | (go_at_call 192;refine(HR.out _).mono ?_;rintro e w' ⟨rfl,rfl⟩) | (go_at_call 94;refine(HA.out _).mono ?_;rintro e w' ⟨rfl,rfl⟩))
     exact bodyPost_ret (v:=.tuple #[.agg #[.int .i64 5,.string (s.extract 0 n),.int .i64 0,.int .i64 0,.int .i64 0,.int .i64 0],.int .i64 (n+1),.int .i64 0]) (by simp[results,Tryz.results159,go_sem]) rfl ⟨by rw[hR.out,QMd];rfl,(Below.refl _ _).alloc (Nat.le_refl _) _⟩
   ·have hw:Qej QWb (s.data.toList.take n)=false:=by simpa using hw
    have hR:=hid (show QZb s.data.toList=(⟨0,[],0,0,0⟩,0,6)from by rw[hF.out,if_neg,if_neg (by simp[hw])];rintro (h|h);exact KQ (by simpa using h);rw[hg]at h;exact h ly)
    clear KQ ly hg
    rcases H7 with h|⟨h,h'⟩|⟨h,h',h''⟩
    all_goals
     go_enter Tryz.func159,Tryz.ntmps159
     go_wp2_with (first | (go_at_call 93;refine(QKa _ _).mono ?_;rintro e w' ⟨rfl,rfl⟩) | (go_at_call 192;refine(HR.out _).mono ?_;rintro e w' ⟨rfl,rfl⟩) | (go_at_call 94;refine(HA.out _).mono ?_;rintro e w' ⟨rfl,rfl⟩))
     exact bodyPost_ret (v:=.tuple #[.agg #[.int .i64 0,.string ⟨#[]⟩,.int .i64 0,.int .i64 0,.int .i64 0,.int .i64 0],.int .i64 0,.int .i64 6]) (by simp[results,Tryz.results159,go_sem]) rfl ⟨by rw[hR.out];rfl,(Below.refl _ _).alloc (Nat.le_refl _) _⟩
  ·have wP:((s[n].toNat:Int) != 58)=true:=by simp;omega
   have hR:=hid (show QZb s.data.toList=(⟨1,s.data.toList.take n,0,0,0⟩,n,0)from by rw[hF.out,if_pos];right;rw[hg];exact ly)
   clear KQ ly hg
   rcases H7 with h|⟨h,h'⟩|⟨h,h',h''⟩
   all_goals
    go_enter Tryz.func159,Tryz.ntmps159
    go_wp2_with (first | (go_at_call 93;refine(QKa _ _).mono ?_;rintro e w' ⟨rfl,rfl⟩) | (go_at_call 192;refine(HR.out _).mono ?_;rintro e w' ⟨rfl,rfl⟩) | (go_at_call 94;refine(HA.out _).mono ?_;rintro e w' ⟨rfl,rfl⟩))
    exact bodyPost_ret (v:=.tuple #[.agg #[.int .i64 1,.string (s.extract 0 n),.int .i64 0,.int .i64 0,.int .i64 0,.int .i64 0],.int .i64 n,.int .i64 0]) (by simp[results,Tryz.results159,go_sem]) rfl ⟨by rw[hR.out,QMd];rfl,(Below.refl _ _).alloc (Nat.le_refl _) _⟩
theorem Qok(c:Int)(hc:¬(QHa c=true∨c=95∨c=35)):QHa c=false∧(c == 95)=false∧(c == 35)=false:=by
 refine⟨?_,?_,?_⟩
 ·cases h:QHa c;rfl;exact absurd (.inl h) hc
 ·simp;intro h;exact hc (.inr (.inl h))
 ·simp;intro h;exact hc (.inr (.inr h))
theorem QVn(s:ByteArray)(w:World)(hs:s.size≤140737488355328)(h1:0<s.size)(hc:¬(QHa s[0].toNat=true∨(s[0].toNat:Int)=95∨(s[0].toNat:Int)=35))(hd:Qvc s[0].toNat=true) :
 Calls Tryz.prog 159 #[.string s] w (Qzd s w):=by
 have hm:s.size≤maxLen:=by unfold maxLen;omega
 have hH:=Qid s h1
 have hF:=hid (show QZb s.data.toList=(⟨2,[],(Q4l (s.data.toList.take (QFc QWb s.data.toList))).1,0,0⟩,QFc QWb s.data.toList,(Q4l (s.data.toList.take (QFc QWb s.data.toList))).2)from by unfold QZb;simp only[hH];rw[if_neg hc,if_pos hd])
 have Gw:=fun wx=>Q4i s 130 QWb wx Qbe Qgd hm
 have hn:=Qxe QWb s.data.toList
 have Ka:=fun wx=>Qcl (s.extract 0 (QFc QWb s.data.toList)) wx (by unfold maxLen at *;simp;omega)
 rw[QOf,List.drop_zero]at Ka
 generalize QFc QWb s.data.toList=n at hF Gw hn Ka
 generalize Q4l (s.data.toList.take n)=N at hF Ka
 have HR:=hid Gw;clear Gw
 have HA:=hid Ka;clear Ka
 have hn':n≤s.size:=by simpa using hn
 clear hn hH
 obtain⟨h,h',h''⟩:=Qok _ hc
 clear hc
 go_enter Tryz.func159,Tryz.ntmps159
 go_wp2_with (first | (go_at_call 93;refine(QKa _ _).mono ?_;rintro e w' ⟨rfl,rfl⟩) | (go_at_call 180;refine(Q1a _ _).mono ?_;rintro e w' ⟨rfl,rfl⟩) | (go_at_call 192;refine(HR.out _).mono ?_;rintro e w' ⟨rfl,rfl⟩) | (go_at_call 194;refine(HA.out _).mono ?_;rintro e w' ⟨rfl,nd,rfl⟩))
 exact bodyPost_ret (v:=.tuple #[.agg #[.int .i64 2,.string ⟨#[]⟩,.int .i64 N.1,.int .i64 0,.int .i64 0,.int .i64 0],.int .i64 n,.int .i64 N.2]) (by simp[results,Tryz.results159,go_sem]) rfl ⟨by rw[hF.out];rfl,
  ((((((below_drewN ((Below.refl _ _).alloc (Nat.le_refl _) _) nd).setCell (Nat.le_refl _) _).setCell (Nat.le_refl _) _).setCell (Nat.le_refl _) _).setCell (Nat.le_refl _) _).setCell (Nat.le_refl _) _).setCell (Nat.le_refl _) _⟩
theorem six{w:World}{b:Nat}{x0 x1 x2 x3 x4 x5:Value}{t:TypeId}(h:Holds w b #[x0,x1,x2,x3,x4,x5] t) :
 (w.cell? ⟨b,0,none⟩=some x0∧w.cell? ⟨b,1,none⟩=some x1∧w.cell? ⟨b,2,none⟩=some x2∧w.cell? ⟨b,3,none⟩=some x3∧w.cell? ⟨b,4,none⟩=some x4∧w.cell? ⟨b,5,none⟩=some x5)∧
 (w.frozen? ⟨b,0,none⟩=false∧w.frozen? ⟨b,1,none⟩=false∧w.frozen? ⟨b,2,none⟩=false∧w.frozen? ⟨b,3,none⟩=false∧w.frozen? ⟨b,4,none⟩=false∧w.frozen? ⟨b,5,none⟩=false):=
 ⟨⟨h.cell 0,h.cell 1,h.cell 2,h.cell 3,h.cell 4,h.cell 5⟩,h.free 0,h.free 1,h.free 2,h.free 3,h.free 4,h.free 5⟩
theorem Q1l(s:ByteArray)(w:World)(hs:s.size≤140737488355328)(h1:0<s.size)(hc:¬(QHa s[0].toNat=true∨(s[0].toNat:Int)=95∨(s[0].toNat:Int)=35))(hd:Qvc s[0].toNat=false)(hq:(s[0].toNat:Int)=34) :
 Calls Tryz.prog 159 #[.string s] w (Qzd s w):=by
 have hH:=Qid s h1
 have hF:=hid (show QZb s.data.toList=(⟨3,(qtA s.data.toList.length (s.data.toList.drop 1) [] 1).1,0,0,0⟩,(qtA s.data.toList.length (s.data.toList.drop 1) [] 1).2.1,(qtA s.data.toList.length (s.data.toList.drop 1) [] 1).2.2)from by unfold QZb;simp only[hH];rw[if_neg hc,if_neg (by simp[hd]),if_pos hq])
 have Ka:=fun wx=>Qdl s wx hs h1
 generalize qtA s.data.toList.length (s.data.toList.drop 1) [] 1=Q at hF Ka
 have HA:=hid Ka;clear Ka
 have hq':((s[0].toNat:Int) == 34)=true:=by simpa using hq
 obtain⟨h,h',h''⟩:=Qok _ hc
 clear hc hq hH
 go_enter Tryz.func159,Tryz.ntmps159
 go_wp2_with (first | (go_at_call 93;refine(QKa _ _).mono ?_;rintro e w' ⟨rfl,rfl⟩) | (go_at_call 180;refine(Q1a _ _).mono ?_;rintro e w' ⟨rfl,rfl⟩))
 refine(HA.out _).mono ?_
 rintro e w1 ⟨rfl,Hb⟩
 have hB:Holds w1 w.heap.size #[.int .i64 0,.string ⟨#[]⟩,.int .i64 0,.int .i64 0,.int .i64 0,.int .i64 0] 150:=(Hb.block w.heap.size (by simp)).trans (Holds.new w _ _)
 obtain⟨⟨c0,c1,c2,c3,c4,c5⟩,f0,f1,f2,f3,f4,f5⟩:=six hB
 have Hh:=hB.lt
 have Hc:Below w.heap.size w w1:=((Below.refl _ _).alloc (Nat.le_refl _) _).trans (Hb.mono (by simp))
 go_wp2_with fail
 exact bodyPost_ret (v:=.tuple #[.agg #[.int .i64 3,.string ⟨Q.1.toArray⟩,.int .i64 0,.int .i64 0,.int .i64 0,.int .i64 0],.int .i64 Q.2.1,.int .i64 Q.2.2]) (by simp[results,Tryz.results159,go_sem,c0,c1,c2,c3,c4,c5]) rfl ⟨by rw[hF.out];rfl,
  (((((Hc.setCell (Nat.le_refl _) _).setCell (Nat.le_refl _) _).setCell (Nat.le_refl _) _).setCell (Nat.le_refl _) _).setCell (Nat.le_refl _) _).setCell (Nat.le_refl _) _⟩
theorem Qvr(s:ByteArray)(w:World)(hs:s.size≤140737488355328)(h1:0<s.size)(hc:¬(QHa s[0].toNat=true∨(s[0].toNat:Int)=95∨(s[0].toNat:Int)=35))(hd:Qvc s[0].toNat=false)(hq:¬(s[0].toNat:Int)=34)(au:(s[0].toNat:Int)=38)(ko:1<s.size)(hl:QHa s[1].toNat=true∨(s[1].toNat:Int)=95) :
 Calls Tryz.prog 159 #[.string s] w (Qzd s w):=by
 have hm:s.size≤maxLen:=by unfold maxLen;omega
 have hH:=Qid s h1
 have hG:=Qvg s 1 ko
 have hF:=hid (show QZb s.data.toList=(⟨6,(s.data.toList.take (QFc QWb (s.data.toList.drop 1)+1)).drop 1,0,0,0⟩,QFc QWb (s.data.toList.drop 1)+1,0)from by
  unfold QZb;simp only[hH];rw[if_neg hc,if_neg (by simp[hd]),if_neg hq,if_pos ⟨au,by simpa using ko,by rw[hG];rcases hl with h|h;exact .inl h;right;omega⟩])
 have Gw:=fun wx=>Q5i s 130 QWb wx Qbe Qgd hm h1
 have hn:=Qxe QWb (s.data.toList.drop 1)
 generalize QFc QWb (s.data.toList.drop 1)=n at hF Gw hn
 have HR:=hid Gw;clear Gw
 have hn':n+1≤s.size:=by simp at hn;omega
 have hq':((s[0].toNat:Int) == 34)=false:=by simpa using hq
 have wJ:((s[0].toNat:Int) == 38)=true:=by simpa using au
 obtain⟨h,h',h''⟩:=Qok _ hc
 clear hn hH hG hc hq au
 by_cases GO:QHa s[1].toNat=true
 ·clear hl
  go_enter Tryz.func159,Tryz.ntmps159
  go_wp2_with (first | (go_at_call 93;refine(QKa _ _).mono ?_;rintro e w' ⟨rfl,rfl⟩) | (go_at_call 180;refine(Q1a _ _).mono ?_;rintro e w' ⟨rfl,rfl⟩) | (go_at_call 192;refine(HR.out _).mono ?_;rintro e w' ⟨rfl,rfl⟩))
  exact bodyPost_ret (v:=.tuple #[.agg #[.int .i64 6,.string (s.extract 1 (n+1)),.int .i64 0,.int .i64 0,.int .i64 0,.int .i64 0],.int .i64 (n+1),.int .i64 0]) (by simp[results,Tryz.results159,go_sem]) rfl ⟨by rw[hF.out,QMd];rfl,(Below.refl _ _).alloc (Nat.le_refl _) _⟩
 ·have Ge:((s[1].toNat:Int) == 95)=true:=by rcases hl with h|h;exact absurd h GO;simpa using h
  have GO:QHa s[1].toNat=false:=by simpa using GO
  clear hl
  go_enter Tryz.func159,Tryz.ntmps159
  go_wp2_with (first | (go_at_call 93;refine(QKa _ _).mono ?_;rintro e w' ⟨rfl,rfl⟩) | (go_at_call 180;refine(Q1a _ _).mono ?_;rintro e w' ⟨rfl,rfl⟩) | (go_at_call 192;refine(HR.out _).mono ?_;rintro e w' ⟨rfl,rfl⟩))
  exact bodyPost_ret (v:=.tuple #[.agg #[.int .i64 6,.string (s.extract 1 (n+1)),.int .i64 0,.int .i64 0,.int .i64 0,.int .i64 0],.int .i64 (n+1),.int .i64 0]) (by simp[results,Tryz.results159,go_sem]) rfl ⟨by rw[hF.out,QMd];rfl,(Below.refl _ _).alloc (Nat.le_refl _) _⟩
def sgT(l:List UInt8):Tok × Nat × Int:=if Qxd l > 0 then(⟨4,l.take (Qxd l),0,0,0⟩,Qxd l,0)else(⟨0,[],0,0,0⟩,0,20)
theorem Qcn(l:List UInt8)(h:l≠[]):Qxd l≤l.length:=by
 unfold Qxd
 split
 ·rename_i h2
  simp only[Q1c,List.any_cons,List.any_nil,Bool.or_false,Bool.or_eq_true]at h2
  rcases h2 with h2|h2|h2|h2|h2|h2|h2|h2 <;> exact Lib.hasPrefix_le h2
 ·split
  ·have:=List.length_pos_iff.2 h;omega
  ·omega
theorem QMp(s:ByteArray)(w:World)(hs:s.size≤140737488355328)(h1:0<s.size)(hc:¬(QHa s[0].toNat=true∨(s[0].toNat:Int)=95∨(s[0].toNat:Int)=35))(hd:Qvc s[0].toNat=false)(hq:¬(s[0].toNat:Int)=34)(au:¬((s[0].toNat:Int)=38∧1<s.size∧(QHa (s.data.toList.getD 1 0).toNat=true∨(s.data.toList.getD 1 0).toNat=95)))(Jo:¬(s[0].toNat:Int)=47) :
 Calls Tryz.prog 159 #[.string s] w (Qzd s w):=by
 have hm:s.size≤maxLen:=by unfold maxLen;omega
 have hH:=Qid s h1
 have hF:=hid (show QZb s.data.toList=sgT s.data.toList from by
  unfold QZb;simp only[hH];rw[if_neg hc,if_neg (by simp[hd]),if_neg hq,if_neg (by simpa using au),if_neg Jo];rfl)
 have Hr:=fun wx=>Q6i s wx hm h1
 have hn:=Qcn s.data.toList (by intro e;have h2:=QTh s;rw[e]at h2;simp only[List.length_nil]at h2;omega)
 unfold sgT at hF
 generalize Qxd s.data.toList=n at hF Hr hn
 have HR:=hid Hr;clear Hr
 have hn':n≤s.size:=by simpa using hn
 have hq':((s[0].toNat:Int) == 34)=false:=by simpa using hq
 have wN:((s[0].toNat:Int) == 47)=false:=by simpa using Jo
 obtain⟨h,h',h''⟩:=Qok _ hc
 have qT:((s[0].toNat:Int) == 38)=false∨((s[0].toNat:Int) == 38)=true∧¬1<s.size∨∃ko:1<s.size,((s[0].toNat:Int) == 38)=true∧QHa s[1].toNat=false∧((s[1].toNat:Int) == 95)=false:=by
  by_cases a:(s[0].toNat:Int)=38
  ·by_cases b:1<s.size
   ·rw[Qvg s 1 b]at au
    refine .inr (.inr ⟨b,by simpa using a,?_,?_⟩)
    ·cases hx:QHa s[1].toNat;rfl;exact absurd ⟨a,b,.inl hx⟩ au
    ·simp;intro hx;exact au ⟨a,b,.inr (by omega)⟩
   ·exact .inr (.inl ⟨by simpa using a,b⟩)
  ·exact .inl (by simpa using a)
 clear hn hH hc hq au Jo
 by_cases Jz:0<n
 ·have hR:=hid (show QZb s.data.toList=(⟨4,s.data.toList.take n,0,0,0⟩,n,0)from by rw[hF.out,if_pos Jz])
  rcases qT with g|⟨g,g'⟩|⟨g,g',g2,g3⟩
  all_goals
   go_enter Tryz.func159,Tryz.ntmps159
   go_wp2_with (first | (go_at_call 93;refine(QKa _ _).mono ?_;rintro e w' ⟨rfl,rfl⟩) | (go_at_call 180;refine(Q1a _ _).mono ?_;rintro e w' ⟨rfl,rfl⟩) | (go_at_call 197;refine(HR.out _).mono ?_;rintro e w' ⟨rfl,rfl⟩))
   exact bodyPost_ret (v:=.tuple #[.agg #[.int .i64 4,.string (s.extract 0 n),.int .i64 0,.int .i64 0,.int .i64 0,.int .i64 0],.int .i64 n,.int .i64 0]) (by simp[results,Tryz.results159,go_sem]) rfl ⟨by rw[hR.out,QMd];rfl,(Below.refl _ _).alloc (Nat.le_refl _) _⟩
 ·have Jz:n=0:=by omega
  subst Jz
  have hR:=hid (show QZb s.data.toList=(⟨0,[],0,0,0⟩,0,20)from by rw[hF.out,if_neg (by omega)])
  rcases qT with g|⟨g,g'⟩|⟨g,g',g2,g3⟩
  all_goals
   go_enter Tryz.func159,Tryz.ntmps159
   go_wp2_with (first | (go_at_call 93;refine(QKa _ _).mono ?_;rintro e w' ⟨rfl,rfl⟩) | (go_at_call 180;refine(Q1a _ _).mono ?_;rintro e w' ⟨rfl,rfl⟩) | (go_at_call 197;refine(HR.out _).mono ?_;rintro e w' ⟨rfl,rfl⟩))
   exact bodyPost_ret (v:=.tuple #[.agg #[.int .i64 0,.string ⟨#[]⟩,.int .i64 0,.int .i64 0,.int .i64 0,.int .i64 0],.int .i64 0,.int .i64 20]) (by simp[results,Tryz.results159,go_sem]) rfl ⟨by rw[hR.out];rfl,(Below.refl _ _).alloc (Nat.le_refl _) _⟩
theorem QNp(s:ByteArray)(w:World)(hs:s.size≤140737488355328)(h1:0<s.size)(hc:¬(QHa s[0].toNat=true∨(s[0].toNat:Int)=95∨(s[0].toNat:Int)=35))(hd:Qvc s[0].toNat=false)(hq:¬(s[0].toNat:Int)=34)(Jo:(s[0].toNat:Int)=47) :
 Calls Tryz.prog 159 #[.string s] w (Qzd s w):=by
 have hm:s.size≤maxLen:=by unfold maxLen;omega
 have hH:=Qid s h1
 have hF:=hid (show QZb s.data.toList=if QFc Qqd (s.data.toList.drop 1) > 0∧QFc Qqd (s.data.toList.drop 1)+1<s.data.toList.length∧(s.data.toList.getD (QFc Qqd (s.data.toList.drop 1)+1) 0).toNat=47 then(⟨7,(s.data.toList.take (QFc Qqd (s.data.toList.drop 1)+1)).drop 1,0,0,0⟩,QFc Qqd (s.data.toList.drop 1)+2,0)else sgT s.data.toList from by
  unfold QZb;simp only[hH];rw[if_neg hc,if_neg (by simp[hd]),if_neg hq,if_neg (by rintro ⟨a,_⟩;omega),if_pos Jo];rfl)
 have Hr:=fun wx=>Q6i s wx hm h1
 have hn:=Qcn s.data.toList (by intro e;have h2:=QTh s;rw[e]at h2;simp only[List.length_nil]at h2;omega)
 have Gw:=fun wx=>Q5i s 196 Qqd wx Qum Qik hm h1
 have hu:=Qxe Qqd (s.data.toList.drop 1)
 unfold sgT at hF
 generalize Qxd s.data.toList=n at hF Hr hn
 generalize QFc Qqd (s.data.toList.drop 1)=u at hF Gw hu
 have HR:=hid Hr;clear Hr
 have HU:=hid Gw;clear Gw
 have hn':n≤s.size:=by simpa using hn
 have hu':u+1≤s.size:=by simp at hu;omega
 have hq':((s[0].toNat:Int) == 34)=false:=by simpa using hq
 have wJ:((s[0].toNat:Int) == 38)=false:=by simp;omega
 have wN:((s[0].toNat:Int) == 47)=true:=by simpa using Jo
 obtain⟨h,h',h''⟩:=Qok _ hc
 clear hn hu hH hc hq Jo
 by_cases hw:0<u∧u+1<s.size∧(s.data.toList.getD (u+1) 0).toNat=47
 ·obtain⟨g1,g2,g3⟩:=hw
  have hR:=hid (show QZb s.data.toList=(⟨7,(s.data.toList.take (u+1)).drop 1,0,0,0⟩,u+2,0)from by rw[hF.out,if_pos ⟨g1,by rw[QTh];exact g2,g3⟩])
  rw[Qvg s _ g2]at g3
  have g4:((s[u+1].toNat:Int) == 47)=true:=by simp[g3]
  clear g3
  go_enter Tryz.func159,Tryz.ntmps159
  go_wp2_with (first | (go_at_call 93;refine(QKa _ _).mono ?_;rintro e w' ⟨rfl,rfl⟩) | (go_at_call 180;refine(Q1a _ _).mono ?_;rintro e w' ⟨rfl,rfl⟩) | (go_at_call 192;refine(HU.out _).mono ?_;rintro e w' ⟨rfl,rfl⟩) | (go_at_call 197;refine(HR.out _).mono ?_;rintro e w' ⟨rfl,rfl⟩))
  exact bodyPost_ret (v:=.tuple #[.agg #[.int .i64 7,.string (s.extract 1 (u+1)),.int .i64 0,.int .i64 0,.int .i64 0,.int .i64 0],.int .i64 (u+2),.int .i64 0]) (by simp[results,Tryz.results159,go_sem]) rfl ⟨by rw[hR.out,QMd];rfl,(Below.refl _ _).alloc (Nat.le_refl _) _⟩
 ·have mN:=hid (show QZb s.data.toList=if n > 0 then(⟨4,s.data.toList.take n,0,0,0⟩,n,0)else(⟨0,[],0,0,0⟩,0,20)from by rw[hF.out,if_neg (by rw[QTh];exact hw)])
  have ML:u=0∨(0<u∧¬u+1<s.size)∨(0<u∧∃g:u+1<s.size,((s[u+1].toNat:Int) == 47)=false):=by
   by_cases a:0<u
   ·by_cases b:u+1<s.size
    ·refine .inr (.inr ⟨a,b,?_⟩)
     rw[Qvg s _ b]at hw
     simp;intro hx;exact hw ⟨a,b,by omega⟩
    ·exact .inr (.inl ⟨a,b⟩)
   ·exact .inl (by omega)
  clear hw
  by_cases Jz:0<n
  ·have hR:=hid (show QZb s.data.toList=(⟨4,s.data.toList.take n,0,0,0⟩,n,0)from by rw[mN.out,if_pos Jz])
   rcases ML with rfl|⟨g,g'⟩|⟨g,g',g2⟩
   all_goals
    go_enter Tryz.func159,Tryz.ntmps159
    go_wp2_with (first | (go_at_call 93;refine(QKa _ _).mono ?_;rintro e w' ⟨rfl,rfl⟩) | (go_at_call 180;refine(Q1a _ _).mono ?_;rintro e w' ⟨rfl,rfl⟩) | (go_at_call 192;refine(HU.out _).mono ?_;rintro e w' ⟨rfl,rfl⟩) | (go_at_call 197;refine(HR.out _).mono ?_;rintro e w' ⟨rfl,rfl⟩))
    exact bodyPost_ret (v:=.tuple #[.agg #[.int .i64 4,.string (s.extract 0 n),.int .i64 0,.int .i64 0,.int .i64 0,.int .i64 0],.int .i64 n,.int .i64 0]) (by simp[results,Tryz.results159,go_sem]) rfl ⟨by rw[hR.out,QMd];rfl,(Below.refl _ _).alloc (Nat.le_refl _) _⟩
  ·have Jz:n=0:=by omega
   subst Jz
   have hR:=hid (show QZb s.data.toList=(⟨0,[],0,0,0⟩,0,20)from by rw[mN.out,if_neg (by omega)])
   rcases ML with rfl|⟨g,g'⟩|⟨g,g',g2⟩
   all_goals
    go_enter Tryz.func159,Tryz.ntmps159
    go_wp2_with (first | (go_at_call 93;refine(QKa _ _).mono ?_;rintro e w' ⟨rfl,rfl⟩) | (go_at_call 180;refine(Q1a _ _).mono ?_;rintro e w' ⟨rfl,rfl⟩) | (go_at_call 192;refine(HU.out _).mono ?_;rintro e w' ⟨rfl,rfl⟩) | (go_at_call 197;refine(HR.out _).mono ?_;rintro e w' ⟨rfl,rfl⟩))
    exact bodyPost_ret (v:=.tuple #[.agg #[.int .i64 0,.string ⟨#[]⟩,.int .i64 0,.int .i64 0,.int .i64 0,.int .i64 0],.int .i64 0,.int .i64 20]) (by simp[results,Tryz.results159,go_sem]) rfl ⟨by rw[hR.out];rfl,(Below.refl _ _).alloc (Nat.le_refl _) _⟩
theorem QAo(s:ByteArray)(w:World)(hs:s.size≤140737488355328)(h1:0<s.size):Calls Tryz.prog 159 #[.string s] w (Qzd s w):=by
 by_cases hc:QHa s[0].toNat=true∨(s[0].toNat:Int)=95∨(s[0].toNat:Int)=35
 ·exact QLp s w hs h1 hc
 ·cases hd:Qvc s[0].toNat
  ·by_cases hq:(s[0].toNat:Int)=34
   ·exact Q1l s w hs h1 hc hd hq
   ·by_cases Jo:(s[0].toNat:Int)=47
    ·exact QNp s w hs h1 hc hd hq Jo
    ·by_cases au:(s[0].toNat:Int)=38∧1<s.size∧(QHa (s.data.toList.getD 1 0).toNat=true∨(s.data.toList.getD 1 0).toNat=95)
     ·obtain⟨a,b,c⟩:=au
      rw[Qvg s 1 b]at c
      exact Qvr s w hs h1 hc hd hq a b (by rcases c with c|c;exact .inl c;right;omega)
     ·exact QMp s w hs h1 hc hd hq au Jo
  ·exact QVn s w hs h1 hc hd
def Qpc(file:Int)(t:Tok):List Value:=[.int .i64 t.kind,.string ⟨t.text.toArray⟩,.int .i64 t.value,.int .i64 file,.int .i64 t.line,.int .i64 t.col]
def Qmc(file:Int)(l:List Tok):List Value:=l.flatMap (Qpc file)
def QMk(p:Int × Int × Int):Value:=.agg #[.int .i64 p.1,.int .i64 p.2.1,.int .i64 p.2.2]
theorem Qvf(file:Int)(l:List Tok)(t:Tok):Qmc file (l++[t])=Qmc file l++Qpc file t:=by simp[Qmc]
theorem Qsq(file:Int)(t:Tok):∀u∈Qpc file t,u.oneCell'=true:=by
 intro u hu
 simp only[Qpc,List.mem_cons,List.not_mem_nil,or_false]at hu
 rcases hu with rfl|rfl|rfl|rfl|rfl|rfl <;> rfl
def Qdj(s:ByteArray)(file:Int)(w:World)(e:Ending)(w':World):Prop:=
 ∃v,e = .returned (.tuple #[v,QMk (Qwd s.data.toList file).2.1,.int .i64 (Qwd s.data.toList file).2.2])∧
  w'.ownsRow w.heap.size 150 6 v (Qwd s.data.toList file).1.length (Qmc file (Qwd s.data.toList file).1)∧Below w.heap.size w w'
theorem Qfg{w:World}{base:Nat}{e:TypeId}{size:Nat}{v:Value}{n:Nat}{xs:List Value}(h:w.ownsRow base e size v n xs):∃a cap,v = .slice a n cap:=by
 rcases h.2 with⟨rfl,rfl⟩|⟨g,cap,cur,rfl,_⟩
 ·exact⟨none,0,rfl⟩
 ·exact⟨_,_,rfl⟩
theorem QGd{w:World}{base base':Nat}{e:TypeId}{size:Nat}{v:Value}{n:Nat}{xs:List Value}(h:w.ownsRow base e size v n xs)(hb:base'≤base):w.ownsRow base' e size v n xs:=by
 refine⟨h.1,?_⟩
 rcases h.2 with hn|⟨g,cap,cur,rfl,hg,r⟩
 ·exact .inl hn
 ·exact .inr ⟨g,cap,cur,rfl,by omega,r⟩
theorem tri{w:World}{b:Nat}{x0 x1 x2:Value}{t:TypeId}(h:Holds w b #[x0,x1,x2] t) :
 w.cell? ⟨b,0,none⟩=some x0∧w.cell? ⟨b,1,none⟩=some x1∧w.cell? ⟨b,2,none⟩=some x2∧w.frozen? ⟨b,0,none⟩=false∧w.frozen? ⟨b,1,none⟩=false∧w.frozen? ⟨b,2,none⟩=false:=
 ⟨h.cell 0,h.cell 1,h.cell 2,h.free 0,h.free 1,h.free 2⟩
section
variable{file:Int}{f:Nat}{l:List UInt8}{p:Int × Int}{acc:List Tok}{B:Nat × Bool}
theorem Qbt(hB:blk l.length l=B)(h:B.2=true):rdA file (f+1) l p acc=([],(file,(adv (l.take B.1) p).1,(adv (l.take B.1) p).2),21):=by
 subst hB;simp only[rdA];rw[if_pos h]
theorem QHr(hB:blk l.length l=B)(h:B.2=false)(h2:acc.length=6000):rdA file (f+1) l p acc=([],(file,(adv (l.take B.1) p).1,(adv (l.take B.1) p).2),3):=by
 subst hB;simp only[rdA];rw[if_neg (by simp[h]),if_pos h2]
theorem Qct(hB:blk l.length l=B)(h:B.2=false)(h2:acc.length≠6000)(h3:l.drop B.1=[]):rdA file (f+1) l p acc=(acc++[⟨8,[],0,(adv (l.take B.1) p).1,(adv (l.take B.1) p).2⟩],(0,0,0),0):=by
 subst hB;simp only[rdA];rw[if_neg (by simp[h]),if_neg h2,if_pos h3]
theorem Qdt(hB:blk l.length l=B)(h:B.2=false)(h2:acc.length≠6000)(h3:l.drop B.1≠[]){t:Tok × Nat × Int}(ht:QZb (l.drop B.1)=t)(h4:t.2.2≠0):rdA file (f+1) l p acc=([],(file,(adv (l.take B.1) p).1,(adv (l.take B.1) p).2),t.2.2):=by
 subst hB ht;simp only[rdA];rw[if_neg (by simp[h]),if_neg h2,if_neg h3,if_pos h4]
theorem Q5t(hB:blk l.length l=B)(h:B.2=false)(h2:acc.length≠6000)(h3:l.drop B.1≠[]){t:Tok × Nat × Int}(ht:QZb (l.drop B.1)=t)(h4:t.2.2=0) :
 rdA file (f+1) l p acc=rdA file f ((l.drop B.1).drop t.2.1) (adv ((l.drop B.1).take t.2.1) (adv (l.take B.1) p)) (acc++[{ t.1 with line:=(adv (l.take B.1) p).1,col:=(adv (l.take B.1) p).2 }]):=by
 subst hB ht;simp only[rdA];rw[if_neg (by simp[h]),if_neg h2,if_neg h3,if_neg (by simp[h4])]
end
def QLu(s:ByteArray)(file:Int)(w:World)(R:List Tok × (Int × Int × Int) × Int)(f:Nat)(v:Value)(wr:World):Prop:=
 ∃(j:Nat) (l c:Int) (toks:List Tok),j≤s.size∧s.size<j+f∧1≤l∧l≤j+1∧1≤c∧c≤j+1∧rdA file f (s.data.toList.drop j) (l,c) toks=R∧toks.length≤6000∧
  wr.ownsRow (w.heap.size+2) 150 6 v toks.length (Qmc file toks)∧Holds wr (w.heap.size+1) (Qsc s j file l c) 183∧Holds wr w.heap.size #[.int .i64 0,.int .i64 0,.int .i64 0] 79∧Below w.heap.size w wr
theorem Qtp:(Tryz.prog.info? 150).map (fun i=>(i.zero,i.size,i.bytes))=some (some (.agg #[.int .i64 0,.string ⟨#[]⟩,.int .i64 0,.int .i64 0,.int .i64 0,.int .i64 0]),6,56):=by kernel_rfl
theorem Qzo(s:ByteArray)(file:Int)(w:World)(hs:s.size≤maxLen)(h0:Qog w) :
 Calls Tryz.prog 120 #[.string s,.int .i64 file] w (Qdj s file w):=by
 unfold maxLen at hs
 by_cases jB:16000<s.size
 ·have hF:=hid (show Qwd s.data.toList file=([],(0,0,0),3)from by unfold Qwd;rw[QTh,if_pos jB])
  go_enter Tryz.func120,Tryz.ntmps120
  go_wp2_with fail
  exact bodyPost_ret (v:=.tuple #[.slice none 0 0,.agg #[.int .i64 0,.int .i64 0,.int .i64 0],.int .i64 3]) (by simp[results,Tryz.results120,go_sem]) rfl ⟨_,by rw[hF.out];rfl,by rw[hF.out];exact World.ownsRow_nil _ _ _ _,(Below.refl _ _).alloc (Nat.le_refl _) _⟩
 ·have jB:s.size≤16000:=by omega
  have hF:Qwd s.data.toList file=rdA file (s.size+1) s.data.toList (1,1) []:=by unfold Qwd;rw[QTh,if_neg (by omega)]
  unfold Qdj
  generalize Qwd s.data.toList file=R at hF
  have HF:=hid hF;clear hF
  go_enter Tryz.func120,Tryz.ntmps120
  go_wp2_with fail
  go_loopg [8] (s.size+1) (fun f v wr=>QLu s file w R f v wr)
  case atStart=>exact⟨0,1,1,[],by omega,by omega,by omega,by omega,by omega,by omega,HF.out.symm,by simp,World.ownsRow_nil _ _ _ _,by
   have:=Holds.new (w.alloc (.cells #[.int .i64 0,.int .i64 0,.int .i64 0] 79)) (Qsc s 0 file 1 1) 183
   rw[show(w.alloc (.cells #[.int .i64 0,.int .i64 0,.int .i64 0] 79)).heap.size=w.heap.size+1 from by simp]at this
   exact this,(Holds.new w _ _).alloc _,((Below.refl _ _).alloc (Nat.le_refl _) _).alloc (by simp) _⟩
  case round=>
   obtain⟨j,l,c,toks,hj,hf,GO,Ge,gM,gB,hE,fg,Hj,hH,hP,kL⟩:=hrel
   obtain⟨f,rfl⟩:∃f',gk=f'+1:=⟨gk-1,by omega⟩
   have CL:Qog wr:=h0.keeps (Qaa.of_fresh kL (fun _=>False)) (fun e=>e)
   have jg:=Qal s j file l c (w.heap.size+1) wr hH hj jB GO Ge gM gB CL
   unfold QQf at jg
   have Ku:=Q2q s j (s.size-j) hj
   have mB:blk (s.data.toList.drop j).length (s.data.toList.drop j)=blk (s.size-j) (s.data.toList.drop j):=by congr 1;simp
   generalize blk (s.size-j) (s.data.toList.drop j)=B at jg Ku mB
   obtain⟨bn,bx⟩:=B
   simp only at jg Ku
   have gw:=QPo ((s.data.toList.drop j).take bn) (l,c) GO gM
   have im:((s.data.toList.drop j).take bn).length≤bn:=by simp;omega
   have KH:=@Qbt file f (s.data.toList.drop j) (l,c) toks _ mB
   have kG:=@QHr file f (s.data.toList.drop j) (l,c) toks _ mB
   have GL:=@Qct file f (s.data.toList.drop j) (l,c) toks _ mB
   have GM:=@Qdt file f (s.data.toList.drop j) (l,c) toks _ mB
   have GN:=@Q5t file f (s.data.toList.drop j) (l,c) toks _ mB
   simp only at KH kG GL GM GN gw
   rw[List.drop_drop]at GL GM GN
   rw[hE]at KH kG GL GM GN
   generalize adv ((s.data.toList.drop j).take bn) (l,c)=p1 at jg gw KH kG GL GM GN
   obtain⟨l1,c1⟩:=p1
   simp only at jg gw KH kG GL GM GN
   obtain⟨k1,k2,k3,k4⟩:=gw
   have k3':l1≤(j+bn:Nat)+1:=by omega
   have k4':c1≤(j+bn:Nat)+1:=by omega
   clear hE k3 k4 im mB
   generalize Gu:j+bn=j2 at jg Ku GL GM GN k3' k4'
   have hjj:j≤j2:=by omega
   clear Gu
   have HC:=hid KH;clear KH
   have oz:=hid kG;clear kG
   have zM:=hid GL;clear GL
   have zN:=hid GM;clear GM
   have zO:=hid GN;clear GN
   have BP:=hid jg;clear jg
   obtain⟨ao,cap,rfl⟩:=Qfg Hj
   go_wp2_with fail
   refine BP.out.mono ?_
   rintro e w1 ⟨rfl,mb,Gg⟩
   have MS:=hP.keeps Gg (by omega)
   have Hb:Below w.heap.size w w1:=kL.trans (Gg.below kL.size (by intro i hi;omega))
   have Gn:=Qca Hj Gg (by intro g hg;have:=(Hj.lt g hg).1;omega)
   have ko:=Gg.size
   have tf:=mb.lt
   have Gf:=Q9e mb
   obtain⟨q0,q1,q2,q3,q4,q5⟩:=tri MS
   obtain⟨r0,r1,r2,r3,r4,r5,r6,r7,r8,r9⟩:=Q9e mb
   clear Gf
   cases bx with
   | true=>
    have hR:=hid (HC.out rfl)
    go_wp2_with fail
    go_region
    go_wp2_with fail
    exact bodyPost_ret (v:=.tuple #[.slice none 0 0,.agg #[.int .i64 file,.int .i64 l1,.int .i64 c1],.int .i64 21]) (by simp[results,Tryz.results120,go_sem,q0,q1,q2]) rfl ⟨_,by rw[hR.out];rfl,by rw[hR.out];exact World.ownsRow_nil _ _ _ _,(((Hb.setCell (Nat.le_refl _) _).setCell (Nat.le_refl _) _).setCell (Nat.le_refl _) _).drew⟩
   | false=>
    by_cases h6:toks.length=6000
    ·have h6':((toks.length:Int) == 6000)=true:=by simp[h6]
     have hR:=hid (oz.out rfl h6)
     clear h6
     go_wp2_with fail
     go_region
     go_wp2_with fail
     exact bodyPost_ret (v:=.tuple #[.slice none 0 0,.agg #[.int .i64 file,.int .i64 l1,.int .i64 c1],.int .i64 3]) (by simp[results,Tryz.results120,go_sem,q0,q1,q2]) rfl ⟨_,by rw[hR.out];rfl,by rw[hR.out];exact World.ownsRow_nil _ _ _ _,(((Hb.setCell (Nat.le_refl _) _).setCell (Nat.le_refl _) _).setCell (Nat.le_refl _) _).drew⟩
    ·have h6':((toks.length:Int) == 6000)=false:=by simp;omega
     have h6b:toks.length<6000:=by omega
     have H6:=hid h6;clear h6
     have GY:=fun wx hh=>Q3i s j2 file l1 c1 (w.heap.size+1) wx hh Ku (by unfold maxLen;omega)
     by_cases hend:j2=s.size
     ·have hR:=hid (zM.out rfl H6.out (QOc s j2 (by omega)))
      subst hend
      have he:s.extract s.size s.size=ByteArray.empty:=Qgh _ (by simp)
      rw[he]at GY
      have Jl:=hid GY;clear GY he
      go_wp2_with fail
      refine(Jl.out _ mb).mono ?_
      rintro e w2 ⟨rfl,nd,rfl⟩
      obtain⟨i0,hi,H4,Hp,gj⟩:=info_parts Qtp
      go_wp2_with (at_builtin;refine wpList_append_own _ rfl _ _ 142 rfl (w.heap.size+2) 150 i0 _ 6 56 Tryz.underlying142 hi H4 Hp gj rfl (by decide) _ _ _ rfl (Gn.alloc _) ⟨w1.heap.size,0,none⟩ 1 1 (Qpc file ⟨8,[],0,l1,c1⟩) rfl rfl ?c1 ?c2 ?c3 ?c4 ?c5 ?_)
      case c1=>exact Q2a (w1.drewN nd) _ _ _ rfl _ rfl
      case c2=>exact Qsq _ _
      case c3=>unfold maxLen;omega
      case c4=>omega
      case c5=>have:=MS.lt;simp;omega
      intro v' w3 Hg Hd _
      have jK:∀g,(Value.slice ao toks.length cap).ownBlock=some g→w.heap.size+2≤g:=fun g hg=>(Gn.lt g hg).1
      have KZ:Holds w3 w.heap.size #[.int .i64 0,.int .i64 0,.int .i64 0] 79:=((MS.drewN nd).alloc _).grown Hd (fun e=>by have:=jK _ e;omega)
      have Hi:Below w.heap.size w w3:=((below_drewN Hb nd).alloc (by simpa using Hb.size) _).grown Hd (by have:=Hb.size;simp;omega) (fun g hg=>by have:=jK g hg;omega)
      obtain⟨p0,p1,p2,p3,p4,p5⟩:=tri KZ
      have Ht:w3.ownsRow w.heap.size 150 6 v' (toks.length+1) (Qmc file (toks++[⟨8,[],0,l1,c1⟩])):=by rw[Qvf];exact QGd Hg (by omega)
      have yN:∀g,v'.ownBlock=some g→¬g=w.heap.size:=fun g hg=>by have:=(Hg.lt g hg).1;omega
      clear Hg Hd
      obtain⟨ao',cap',rfl⟩:=Qfg Ht
      go_wp2_with fail
      exact bodyPost_ret (v:=.tuple #[.slice ao' (toks.length+1) cap',.agg #[.int .i64 0,.int .i64 0,.int .i64 0],.int .i64 0]) (by simp[results,Tryz.results120,go_sem,p0,p1,p2]) rfl ⟨_,by rw[hR.out];rfl,by
       rw[hR.out]
       simp only[List.length_append,List.length_singleton]
       exact Qca Ht ((((Qaa.refl (fun i=>i=w.heap.size) w3).setCell (.inr rfl) _).setCell (.inr rfl) _).setCell (.inr rfl) _) yN,
       ((Hi.setCell (Nat.le_refl _) _).setCell (Nat.le_refl _) _).setCell (Nat.le_refl _) _⟩
     ·have Gu:j2<s.size:=by omega
      have jK:=QJc s j2
      have hsz:(s.extract j2 s.size).size=s.size-j2:=by simp
      have xZ:s.data.toList.drop j2≠[]:=by rw[QCb s j2 Gu];simp
      have Kr:=fun wx=>QAo (s.extract j2 s.size) wx (by omega) (by omega)
      unfold Qzd at Kr
      rw[jK]at Kr
      have KI:=QTn (s.data.toList.drop j2) xZ
      have ui:=fun n hn wx hh=>Q7i s j2 n file l1 c1 (w.heap.size+1) wx hh hn (by omega) k1 k3' k2 k4'
      have aO:=hid (fun h=>zN.out rfl H6.out xZ rfl h)
      have aP:=hid (fun h=>zO.out rfl H6.out xZ rfl h)
      clear zN zO zM oz HC
      simp only[List.length_drop]at KI
      generalize QZb (s.data.toList.drop j2)=T at Kr KI aO aP
      generalize s.extract j2 s.size=r at GY hsz Kr
      have MG:0<r.size:=by omega
      have Hm:=QYe r MG
      have kN:=QTc r MG
      obtain⟨tk,tn,te⟩:=T
      simp only at Kr KI aO aP
      have Jl:=hid GY;clear GY
      have M9:=hid Kr;clear Kr
      have HSZ:=hid hsz;clear hsz
      have qD:=hid ui;clear ui
      clear hend jK
      by_cases hte:te=0
      ·subst hte
       obtain⟨t1,t2⟩:=KI rfl
       have t2':j2+tn≤s.size:=by rw[QTh]at t2;omega
       have hR:=hid (aP.out rfl)
       clear aO aP KI t2
       go_wp2_with fail
       refine(Jl.out _ mb).mono ?_
       rintro e w2 ⟨rfl,nd,rfl⟩
       go_wp2_with fail
       refine(Jl.out _ (mb.drewN nd)).mono ?_
       rintro e w2 ⟨rfl,nd2,rfl⟩
       go_wp2_with fail
       refine(M9.out _).mono ?_
       rintro e w2 ⟨rfl,KG⟩
       have Mi:Below w1.heap.size w1 w2:=⟨KG.os,KG.tape,KG.output,KG.size,KG.block⟩
       unfold QHb
       have ia:Qaa (fun _=>False) w1 w2:=Qaa.of_fresh Mi _
       have Gm:=mb.keeps ia (fun e=>e)
       have Kf:=MS.keeps ia (fun e=>e)
       have Ht:=Qca Gn ia (fun _ _ e=>e)
       have Hc:Below w.heap.size w w2:=Hb.trans (Mi.mono Hb.size)
       have GB:=ia.size
       clear KG r0 r1 r2 r3 r4 r5 r6 r7 r8 r9
       obtain⟨r0,r1,r2,r3,r4,r5,r6,r7,r8,r9⟩:=Q9e Gm
       have GR:=Gm.lt
       obtain⟨i0,hi,H4,Hp,gj⟩:=info_parts Qtp
       go_wp2_with (at_builtin;refine wpList_append_own _ rfl _ _ 142 rfl (w.heap.size+2) 150 i0 _ 6 56 Tryz.underlying142 hi H4 Hp gj rfl (by decide) _ _ _ rfl ((Ht.alloc _).alloc _) ⟨w2.heap.size+1,0,none⟩ 1 1 (Qpc file { tk with line:=l1,col:=c1 }) rfl rfl ?c1 ?c2 ?c3 ?c4 ?c5 ?_)
       case c1=>exact Q2a _ _ _ _ (by simp) _ rfl
       case c2=>exact Qsq _ _
       case c3=>unfold maxLen;omega
       case c4=>omega
       case c5=>have:=MS.lt;have:=Hc.size;simp;omega
       intro v' w3 Hg Hd _
       have jK:∀g,(Value.slice ao toks.length cap).ownBlock=some g→w.heap.size+2≤g:=fun g hg=>(Gn.lt g hg).1
       have KZ:Holds w3 w.heap.size #[.int .i64 0,.int .i64 0,.int .i64 0] 79:=((Kf.alloc _).alloc _).grown Hd (fun e=>by have:=jK _ e;omega)
       have kh:Holds w3 (w.heap.size+1) (Qsc s j2 file l1 c1) 183:=((Gm.alloc _).alloc _).grown Hd (fun e=>by have:=jK _ e;omega)
       have Hi:Below w.heap.size w w3:=((Hc.alloc Hc.size _).alloc (by have:=Hc.size;simp;omega) _).grown Hd (by have:=Hc.size;simp;omega) (fun g hg=>by have:=jK g hg;omega)
       have GX:w3.ownsRow (w.heap.size+2) 150 6 v' (toks.length+1) (Qmc file (toks++[{ tk with line:=l1,col:=c1 }])):=by rw[Qvf];exact Hg
       have yN:∀g,v'.ownBlock=some g→¬g=w.heap.size+1:=fun g hg=>by have:=(Hg.lt g hg).1;omega
       clear Hg Hd
       have k7:=kh.lt
       clear r0 r1 r2 r3 r4 r5 r6 r7 r8 r9
       go_wp2_with fail
       refine(qD.out tn t2' _ kh).mono ?_
       rintro e w4 ⟨rfl,jD,kW⟩
       have jW:=KZ.keeps kW (by omega)
       have Hu:Below w.heap.size w w4:=Hi.trans (kW.below Hi.size (by intro i hi;omega))
       have gv:=Qca GX kW yN
       go_wp2_with fail
       go_roundg f
       case measure=>omega
       case rel=>
        have gw:=QPo ((s.data.toList.drop j2).take tn) (l1,c1) k1 k2
        have jl:((s.data.toList.drop j2).take tn).length≤tn:=by simp;omega
        have mW:=hR.out.symm
        rw[List.drop_drop]at mW
        exact⟨j2+tn,_,_,toks++[{ tk with line:=l1,col:=c1 }],t2',by omega,gw.1,by simp at gw;omega,gw.2.1,by simp at gw;omega,mW,by simp;omega,by simpa using gv,jD,jW,Hu⟩
      ·have hR:=hid (aO.out hte)
       have hte':(te != 0)=true:=by simpa using hte
       clear aO aP KI hte
       go_wp2_with fail
       refine(Jl.out _ mb).mono ?_
       rintro e w2 ⟨rfl,nd,rfl⟩
       go_wp2_with fail
       refine(Jl.out _ (mb.drewN nd)).mono ?_
       rintro e w2 ⟨rfl,nd2,rfl⟩
       go_wp2_with fail
       refine(M9.out _).mono ?_
       rintro e w2 ⟨rfl,KG⟩
       have Mi:Below w1.heap.size w1 w2:=⟨KG.os,KG.tape,KG.output,KG.size,KG.block⟩
       unfold QHb
       have ia:Qaa (fun _=>False) w1 w2:=Qaa.of_fresh Mi _
       have Gm:=mb.keeps ia (fun e=>e)
       have Kf:=MS.keeps ia (fun e=>e)
       have Hc:Below w.heap.size w w2:=Hb.trans (Mi.mono Hb.size)
       have GB:=ia.size
       clear KG r0 r1 r2 r3 r4 r5 r6 r7 r8 r9 q0 q1 q2 q3 q4 q5
       obtain⟨q0,q1,q2,q3,q4,q5⟩:=tri Kf
       obtain⟨r0,r1,r2,r3,r4,r5,r6,r7,r8,r9⟩:=Q9e Gm
       have GR:=Gm.lt
       have yI:=Kf.lt
       go_wp2_with fail
       go_region
       go_wp2_with fail
       exact bodyPost_ret (v:=.tuple #[.slice none 0 0,.agg #[.int .i64 file,.int .i64 l1,.int .i64 c1],.int .i64 te]) (by simp[results,Tryz.results120,go_sem,q0,q1,q2,yI]) rfl ⟨_,by rw[hR.out];rfl,by rw[hR.out];exact World.ownsRow_nil _ _ _ _,((((Hc.setCell (Nat.le_refl _) _).setCell (Nat.le_refl _) _).setCell (Nat.le_refl _) _).alloc (by simpa using Hc.size) _).drew⟩
theorem Qpt{w:World}{base:Nat}{T:TypeId}{v:Value}{file:Int}{toks:List Tok}(h:w.ownsRow base T 6 v toks.length (Qmc file toks))(Hm:toks≠[]) :
 ∃g cap,v = .slice (some ⟨g,0,none⟩) toks.length cap∧base≤g∧g<w.heap.size∧toks.length≤cap∧∀(i:Nat) (t:Tok),toks[i]? = some t→∀(k:Nat) (u:Value),(Qpc file t)[k]? = some u→w.cell? ⟨g,6*i+k,none⟩=some u:=by
 have hlen:=List.length_pos_iff.2 Hm
 rcases h.2 with⟨_,h0⟩|⟨g,cap,cur,rfl,hb,hh,hcap,hr⟩
 ·omega
 ·refine⟨g,cap,rfl,hb,lt_of_block hh,hcap,?_⟩
  intro i t ht k u hu
  have hc:=h.cells (g:=g) rfl (6*i+k) u
  have Gq:(⟨g,0,none⟩:Addr).add (6*i+k)=⟨g,6*i+k,none⟩:=by unfold Addr.add;split <;> simp_all
  rw[Gq]at hc
  apply hc
  have hk:k<6:=by
   rcases Nat.lt_or_ge k 6 with h|h
   ·exact h
   ·rw[List.getElem?_eq_none (by simpa[Qpc]using h)]at hu;cases hu
  clear hc hcap hr hh hb h hlen Gq Hm
  unfold Qmc
  induction toks generalizing i with
  | nil=>simp at ht
  | cons a l ih=>
   rw[List.flatMap_cons]
   cases i with
   | zero=>
    simp at ht;subst ht
    rw[List.getElem?_append_left (by simp[Qpc];omega)]
    simpa using hu
   | succ i=>
    rw[List.getElem?_append_right (by simp[Qpc];omega)]
    have:=ih i (by simpa using ht)
    rw[←this];congr 1;simp[Qpc];omega
def QYd(cs:List Q4g):List Value:=cs.flatMap fun c=>[.int .i64 c.value,.string c.label]
def QYc:List Qzf→List Value→List Value
 | p::ps,v::vs=>.int .i64 p.kind::v :: .string p.text::QYc ps vs
 | _,_=>[]
def QPb(file:Int):List Qxc→List Value→List Value
 | d::ds,v::vs=>.int .i64 d.kind :: .string d.label :: .string d.name::v :: .int .i64 file :: .int .i64 d.line :: .int .i64 d.col::QPb file ds vs
 | _,_=>[]
theorem Qjf(cs:List Q4g)(c:Q4g):QYd (cs++[c])=QYd cs++[.int .i64 c.value,.string c.label]:=by simp[QYd]
theorem Qqf:∀(ps:List Qzf) (vs:List Value) (p:Qzf) (v:Value),vs.length=ps.length→QYc (ps++[p]) (vs++[v])=QYc ps vs++[.int .i64 p.kind,v,.string p.text]
 | [],[],_,_,_=>rfl
 | q::ps,u::vs,p,v,h=>by simp only[QYc,List.cons_append];rw[Qqf ps vs p v (by simpa using h)]
theorem QVf(file:Int):∀(ds:List Qxc) (vs:List Value) (d:Qxc) (v:Value),vs.length=ds.length→
 QPb file (ds++[d]) (vs++[v])=QPb file ds vs++[.int .i64 d.kind,.string d.label,.string d.name,v,.int .i64 file,.int .i64 d.line,.int .i64 d.col]
 | [],[],_,_,_=>rfl
 | e::ds,u::vs,d,v,h=>by simp only[QPb,List.cons_append];rw[QVf file ds vs d v (by simpa using h)]
def QRa(w:World)(base:Nat)(v:Value)(cs:List Q4g):Prop:=w.ownsRow base 198 2 v cs.length (QYd cs)
def QSa(w:World)(base:Nat)(v:Value)(ps:List Qzf):Prop:=
 ∃vs:List Value,vs.length=ps.length∧w.ownsRow base 196 3 v ps.length (QYc ps vs)∧∀k (h:k<ps.length) (h2:k<vs.length),QRa w base vs[k] ps[k].cells
def QNb(w:World)(base:Nat)(file:Int)(v:Value)(D:List Qxc):Prop:=
 ∃vs:List Value,vs.length=D.length∧w.ownsRow base 123 7 v D.length (QPb file D vs)∧∀k (h:k<D.length) (h2:k<vs.length),QSa w base vs[k] D[k].parts
section
variable{w w':World}{base:Nat}{file:Int}{v:Value}{cs:List Q4g}{ps:List Qzf}{D:List Qxc}
theorem QNb.slice(h:QNb w base file v D):∃a c,v = .slice a D.length c:=by obtain⟨_,_,h,_⟩:=h;exact Qea h
theorem QSa.slice(h:QSa w base v ps):∃a c,v = .slice a ps.length c:=by obtain⟨_,_,h,_⟩:=h;exact Qea h
theorem QRa.slice(h:QRa w base v cs):∃a c,v = .slice a cs.length c:=Qea h
theorem QRa.none(w:World)(base:Nat):QRa w base (.slice none 0 0) []:=⟨rfl,.inl ⟨rfl,rfl⟩⟩
theorem QSa.none(w:World)(base:Nat):QSa w base (.slice none 0 0) []:=⟨[],rfl,⟨rfl,.inl ⟨rfl,rfl⟩⟩,fun _ h=>by cases h⟩
theorem QNb.none(w:World)(base:Nat)(file:Int):QNb w base file (.slice none 0 0) []:=⟨[],rfl,⟨rfl,.inl ⟨rfl,rfl⟩⟩,fun _ h=>by cases h⟩
def Qyc(w:World)(S:Nat→Prop):Prop:=∀b,b<w.heap.size→S b→∃xs t,Holds w b xs t∧t≠198∧t≠196∧t≠123
theorem Qmd{e:TypeId}{size n b:Nat}{xs:List Value}(h:w.ownsRow base e size v n xs)(hb:v.ownBlock=some b):b<w.heap.size∧base≤b∧∃cur,Holds w b cur e:=by
 rcases h.2 with⟨rfl,_⟩|⟨g,cap,cur,rfl,hg,hh,_⟩
 ·simp[Value.ownBlock]at hb
 ·obtain rfl:g=b:=Option.some.inj hb
  exact⟨lt_of_block hh,hg,_,hh⟩
theorem Q4h{S:Nat→Prop}{e:TypeId}{size n:Nat}{xs:List Value}(h:w.ownsRow base e size v n xs)(ha:Qyc w S)(he:e=198∨e=196∨e=123):∀g,v.ownBlock=some g→¬S g:=by
 intro g hg hS
 obtain⟨h1,_,cur,h2⟩:=Qmd h hg
 obtain⟨xs,t,h3,n1,n2,n3⟩:=ha g h1 hS
 have h4:w.heap[g]? = some (.cells xs t (0,0)):=h3
 have h5:w.heap[g]? = some (.cells cur e (0,0)):=h2
 rw[h4]at h5
 cases h5
 rcases he with rfl|rfl|rfl
 ·exact n1 rfl
 ·exact n2 rfl
 ·exact n3 rfl
theorem QRa.keeps{S:Nat→Prop}(h:QRa w base v cs)(k:Qaa S w w')(ha:Qyc w S):QRa w' base v cs:=Qca h k (Q4h h ha (.inl rfl))
theorem QSa.keeps{S:Nat→Prop}(h:QSa w base v ps)(k:Qaa S w w')(ha:Qyc w S):QSa w' base v ps:=by
 obtain⟨vs,h1,h2,h3⟩:=h
 exact⟨vs,h1,Qca h2 k (Q4h h2 ha (.inr (.inl rfl))),fun j h h'=>(h3 j h h').keeps k ha⟩
theorem QNb.keeps{S:Nat→Prop}(h:QNb w base file v D)(k:Qaa S w w')(ha:Qyc w S):QNb w' base file v D:=by
 obtain⟨vs,h1,h2,h3⟩:=h
 exact⟨vs,h1,Qca h2 k (Q4h h2 ha (.inr (.inr rfl))),fun j h h'=>(h3 j h h').keeps k ha⟩
theorem Qyc.one{b:Nat}{xs:Array Value}{t:TypeId}(h:Holds w b xs t)(h1:t≠198)(h2:t≠196)(h3:t≠123):Qyc w (· = b):=fun _ _ e=>by cases e;exact⟨_,_,h,h1,h2,h3⟩
theorem Qyc.nil(w:World):Qyc w (fun _=>False):=fun _ _ e=>e.elim
theorem QRa.lower{b2:Nat}(h:QRa w base v cs)(hb:b2≤base):QRa w b2 v cs:=Q8b h hb
theorem QSa.lower{b2:Nat}(h:QSa w base v ps)(hb:b2≤base):QSa w b2 v ps:=by
 obtain⟨vs,h1,h2,h3⟩:=h
 exact⟨vs,h1,Q8b h2 hb,fun j h h'=>(h3 j h h').lower hb⟩
end
def Quh(B:Nat)(w:World)(v:Value)(file:Int)(L:List Tok):Prop:=
 ∃g cap,v = .slice (some ⟨g,0,none⟩) L.length cap∧g<B∧∀(i:Nat) (h:i<L.length) (k:Nat) (u:Value),(Qpc file L[i])[k]? = some u→w.cell? ⟨g,6*i+k,none⟩=some u
theorem Quh.keeps{B:Nat}{w w':World}{v:Value}{file:Int}{L:List Tok}{S:Nat→Prop}(h:Quh B w v file L)(k:Qaa S w w')(hs:∀b,S b→B≤b):Quh B w' v file L:=by
 obtain⟨g,cap,e,hg,hc⟩:=h
 refine⟨g,cap,e,hg,fun i hi j u hu=>?_⟩
 have c:=hc i hi j u hu
 exact(k.cell (p:=⟨g,6*i+j,none⟩) (World.block_lt_of_cell? w _ c) (fun e=>by have:=hs g e;omega)).trans c
structure LOk(L:List Tok):Prop where
 len:L.length≤6001
 text:∀t∈L,t.text.length≤16000
 last:∃ts t,L=ts++[t]∧t.kind=8
theorem LOk.next{L:List Tok}(h:LOk L){i:Nat}(hi:i<L.length)(hk:(tkN L i).kind≠8):i+1<L.length:=by
 obtain⟨ts,t,rfl,h8⟩:=h.last
 simp only[List.length_append,List.length_cons,List.length_nil]at hi ⊢
 rcases Nat.lt_or_ge i ts.length with c|c
 ·omega
 ·exfalso
  apply hk
  obtain rfl:i=ts.length:=by omega
  unfold tkN
  rw[List.getD_eq_getElem?_getD,List.getElem?_append_right (Nat.le_refl _)]
  simpa using h8
structure Q7a(w:World)(r base:Nat)(file:Int)(L:List Tok)(lv ov:Value)(i:Nat)(D:List Qxc):Prop where
 holds:Holds w r #[lv,.int .i64 i,ov,.pointer none] 148
 toks:Quh base w lv file L
 defs:QNb w base file ov D
 low:base≤r
 size:base≤w.heap.size
 lt:i<L.length
 ok:LOk L
 cnt:D.length≤i
def QIo(w:World)(r base:Nat)(file:Int)(lv x ov fp:Value)(D:List Qxc):Prop:=
 Holds w r #[lv,x,ov,fp] 148∧QNb w base file ov D∧base≤r∧base≤w.heap.size
theorem Q7a.raw{w:World}{r base:Nat}{file:Int}{L:List Tok}{lv ov:Value}{i:Nat}{D:List Qxc}(h:Q7a w r base file L lv ov i D):QIo w r base file lv (.int .i64 i) ov (.pointer none) D:=⟨h.holds,h.defs,h.low,h.size⟩
def QBb(w:World)(r:Nat)(file:Int)(L:List Tok)(lv ov:Value)(k:Nat)(c:Int):Prop:=
 ∃x f,Holds w r #[lv,x,ov,.pointer (some ⟨f,0,none⟩)] 148∧Holds w f #[.int .i64 file,.int .i64 (tkN L k).line,.int .i64 (tkN L k).col,.int .i64 c] 153
theorem QId{w:World}{a b:Nat}{xs ys:Array Value}{s t:TypeId}(h:Holds w a xs s)(k:Holds w b ys t)(Hm:s≠t):a≠b:=by
 rintro rfl
 have h1:w.heap[a]? = some (.cells xs s (0,0)):=h
 have h2:w.heap[a]? = some (.cells ys t (0,0)):=k
 rw[h1]at h2
 cases h2
 exact Hm rfl
theorem QBb.keeps{w w':World}{r:Nat}{file:Int}{L:List Tok}{lv ov:Value}{k:Nat}{c:Int}{S:Nat→Prop}(h:QBb w r file L lv ov k c)(K:Qaa S w w')(hs:∀b,S b→∃xs t,Holds w b xs t∧t≠148∧t≠153):QBb w' r file L lv ov k c:=by
 obtain⟨x,f,h1,h2⟩:=h
 refine⟨x,f,h1.keeps K (fun e=>?_),h2.keeps K (fun e=>?_)⟩
 ·obtain⟨xs,t,h3,n1,_⟩:=hs r e
  exact QId h3 h1 n1 rfl
 ·obtain⟨xs,t,h3,_,n2⟩:=hs f e
  exact QId h3 h2 n2 rfl
theorem QBb.one{w w':World}{r B:Nat}{file:Int}{L:List Tok}{lv ov:Value}{k:Nat}{c:Int}{xs:Array Value}{t:TypeId}(h:QBb w r file L lv ov k c)(hB:Holds w B xs t)(n1:t≠148)(n2:t≠153)(K:Qaa (· = B) w w'):QBb w' r file L lv ov k c:=
 h.keeps K (fun b e=>by cases e;exact⟨xs,t,hB,n1,n2⟩)
theorem QBb.new{w w':World}{r:Nat}{file:Int}{L:List Tok}{lv ov:Value}{k:Nat}{c:Int}(h:QBb w r file L lv ov k c)(K:Qaa (fun _=>False) w w'):QBb w' r file L lv ov k c:=h.keeps K (fun _ e=>e.elim)
end Go.Proofs.YtgaboghigefgbaaGreatDoor
