/- Contracts of number and quoted of token. | The contract of next of token. | The contract of next of token: references and signs. | The contract of next of token: words, and all of it. | The contract of Read of token. | A row of tokens in memory, read. | Definitions in memory, as a call makes them: rows of definitions, of parts, of cells. | Contracts of the reference of token: text. | Contracts of the reference of token: number. -/
import Derived.Test.YtofhcgbihonckaaGreatZ11
import Derived.Deep.DeepCutAuto
import Derived.Deep.CutBlock
import Derived.Test.YtofhcgbihonckaaGreatZ13
import Derived.Test.YtofhcgbihonckaaGreatZ5
import Derived.Test.YtofhcgbihonckaaGreatZ9
import Derived.Test.YtofhcgbihonckaaGreatZ7
import Derived.Laws.IdiomStrings
import Derived.Deep.LoopGhost
set_option linter.all false
set_option maxHeartbeats 8000000
namespace Go.Proofs.YtofhcgbihonckaaGreat
open Go.Lib (hid)
open Go.RowKit
theorem QUo{l:List UInt8}(h:Lib.hasPrefix l [48,120]=true):Qkb l=(16,l.drop 2):=by unfold Qkb;simp[h]
theorem QVo{l:List UInt8}(h:Lib.hasPrefix l [48,120]=false)(h1:1<l.length)(h2:((l.headD 0).toNat:Int)=48):Qkb l=(8,l.drop 1):=by
 have h3:l.headD 0=48:=by
  apply UInt8.toNat_inj.1
  have:(l.headD 0).toNat=48:=by omega
  rw[this];rfl
 unfold Qkb
 rw[if_neg (by simp[h]),if_pos ⟨h1,h3⟩]
theorem QNk{l:List UInt8}(h:Lib.hasPrefix l [48,120]=false)(h1:¬1<l.length∨((l.headD 0).toNat:Int)≠48):Qkb l=(10,l):=by
 unfold Qkb;rw[if_neg (by simp[h]),if_neg ?_];rintro ⟨a,b⟩;rcases h1 with h1|h1;exact h1 a;apply h1;rw[b];rfl
theorem Qlj(s:ByteArray)(w:World)(hs:s.size≤maxLen) :
 Calls Tryz.prog 89 #[.string s] w fun e w'=>e = .returned (.tuple #[.int .i64 (QMe s.data.toList).1,.int .i64 (QMe s.data.toList).2])∧∃n,w'=w.drewN n:=by
 unfold maxLen at hs
 go_enter Tryz.func89,Tryz.ntmps89
 go_upto_block 0 with fail
 have Hm:=Qxg s.data.toList
 have Kl:=QKf s.data.toList
 generalize hnp:Qkb s.data.toList=np at Hm Kl
 have aD:=hid hnp;clear hnp
 obtain⟨base,dl⟩:=np
 obtain⟨Hf,Ho⟩:=Hm
 simp only at Hf Ho Kl
 go_cut [4,5] (fun b d wx=>∃dg:ByteArray,b = .int .i64 base∧d = .string dg∧Hid (dg.data.toList=dl)∧∃n,wx=w.drewN n)
 case first=>
  by_cases hp:Lib.hasPrefix s.data.toList [48,120]=true
  ·have oV:=Lib.hasPrefix_le hp
   have hle2:2≤s.size:=by simpa using oV
   go_wp2_with (first | (go_at_call 80;refine(Tryz.strings_HasPrefix _ _ _).mono ?_;rintro e w' ⟨rfl,rfl⟩))
   go_quiet (fail)
   go_wp2
   go_meet
   case rel=>
    have e:=(QUo hp).symm.trans aD.out
    obtain⟨rfl,rfl⟩:=Prod.mk.inj e
    exact⟨_,rfl,rfl,QLb s 2,_,rfl⟩
  ·have hp:Lib.hasPrefix s.data.toList [48,120]=false:=by simpa using hp
   by_cases h1:1<s.size
   ·have hH:=hid (Qnc s (by omega))
    by_cases h48:(s[0].toNat:Int)=48
    ·have su:((s[0].toNat:Int) == 48)=true:=by simpa using h48
     have qO:=hid h48;clear h48
     go_wp2_with (first | (go_at_call 80;refine(Tryz.strings_HasPrefix _ _ _).mono ?_;rintro e w' ⟨rfl,rfl⟩))
     go_quiet (fail)
     go_wp2
     go_meet
     case rel=>
      have e:=(QVo hp (by simpa using h1) (by rw[hH.out];exact qO.out)).symm.trans aD.out
      obtain⟨rfl,rfl⟩:=Prod.mk.inj e
      exact⟨_,rfl,rfl,QLb s 1,_,rfl⟩
    ·have su:((s[0].toNat:Int) == 48)=false:=by simpa using h48
     have qO:=hid h48;clear h48
     go_wp2_with (first | (go_at_call 80;refine(Tryz.strings_HasPrefix _ _ _).mono ?_;rintro e w' ⟨rfl,rfl⟩))
     go_meet
     case rel=>
      have e:=(QNk hp (.inr (by rw[hH.out];exact qO.out))).symm.trans aD.out
      obtain⟨rfl,rfl⟩:=Prod.mk.inj e
      exact⟨_,rfl,rfl,rfl,0,rfl⟩
   ·go_wp2_with (first | (go_at_call 80;refine(Tryz.strings_HasPrefix _ _ _).mono ?_;rintro e w' ⟨rfl,rfl⟩))
    go_meet
    case rel=>
     have e:=(QNk hp (.inl (by simpa using h1))).symm.trans aD.out
     obtain⟨rfl,rfl⟩:=Prod.mk.inj e
     exact⟨_,rfl,rfl,rfl,0,rfl⟩
 case rest=>
  obtain⟨dg,rfl,rfl,cZ,n0,rfl⟩:=hcut
  have hT:=hid (show QMe s.data.toList=if dl=[]then(0,6)else QPl (Q2a base dl 0)from by unfold QMe;rw[aD.out])
  have Ga:dg.size=dl.length:=by rw[←cZ.out];simp
  have ae:dg.size≤9223372036854775807:=by rw[Ga];simp at Kl;omega
  have HL:=hid Ga;clear Ga
  by_cases h0:dg.size=0
  ·obtain rfl:=QEd dg h0
   have hF:=hid (show QMe s.data.toList=(0,6)from by rw[hT.out,if_pos];rw[←cZ.out];rfl)
   clear h0
   go_wp2_with fail
   go_ret2
   exact⟨by rw[hF.out];rfl,_,rfl⟩
  ·have h0:0<dg.size:=by omega
   have Hn:=Qzc dg h0
   have Jr:=Qub dg h0
   have gN:=hid (show QMe s.data.toList=QPl (Q2a base dg.data.toList 0)from by rw[hT.out,cZ.out,if_neg];intro e;have:=HL.out;subst e;simp only[List.length_nil]at this;omega)
   go_wp2_with fail
   go_loop [6,30] (fun x i=>∃k:Nat,∃n:Int,k≤dg.size∧i = .int .i64 k∧x = .int .i64 n∧0≤n∧n≤4294967296∧Hid (Q2a base dg.data.toList 0=Q2a base (dg.data.toList.drop k) n)) (fun _ i=>dg.size-(intOf i).toNat)
   case atStart=>exact⟨0,0,Nat.zero_le _,rfl,rfl,by omega,by omega,rfl⟩
   case round=>
    obtain⟨k,n,hk,rfl,rfl,Mw,ls,hE⟩:=hrel
    by_cases Hh:k<dg.size
    ·have Kt:=hid (show Q2a base dg.data.toList 0=if Qwc dg[k].toNat<0∨base≤Qwc dg[k].toNat then none else Q2a base (dg.data.toList.drop (k+1)) (min (n*base+Qwc dg[k].toNat) 4294967296)from by rw[hE.out,QBa dg k Hh];rfl)
     have Hm:=Qof dg[k].toNat
     have yg:0≤n*base:=Int.mul_nonneg Mw (by omega)
     have tg:n*base≤4294967296*16:=Int.mul_le_mul ls Ho (by omega) (by omega)
     by_cases hh:Qwc dg[k].toNat<0
     ·have hF:=hid (show QMe s.data.toList=(0,6)from by rw[gN.out,Kt.out,if_pos (.inl hh)];rfl)
      go_wp2_with (first | (go_at_call 119;refine(Qyd _ _ (by omega) (QYb _)).mono ?_;rintro e w' ⟨rfl,rfl⟩))
      go_ret2
      exact⟨by rw[hF.out];rfl,_,rfl⟩
     ·have hh:0≤Qwc dg[k].toNat:=by omega
      by_cases hg:base≤Qwc dg[k].toNat
      ·have hF:=hid (show QMe s.data.toList=(0,6)from by rw[gN.out,Kt.out,if_pos (.inr hg)];rfl)
       go_wp2_with (first | (go_at_call 119;refine(Qyd _ _ (by omega) (QYb _)).mono ?_;rintro e w' ⟨rfl,rfl⟩))
       go_ret2
       exact⟨by rw[hF.out];rfl,_,rfl⟩
      ·have hg:Qwc dg[k].toNat<base:=by omega
       have nH:=hid (show Q2a base dg.data.toList 0=Q2a base (dg.data.toList.drop (k+1)) (min (n*base+Qwc dg[k].toNat) 4294967296)from by rw[Kt.out,if_neg (by omega)])
       go_wp2_with (first | (go_at_call 119;refine(Qyd _ _ (by omega) (QYb _)).mono ?_;rintro e w' ⟨rfl,rfl⟩))
       go_round
       case rel=>exact⟨k+1,_,by omega,by go_num,rfl,by omega,by omega,nH⟩
       case measure=>simp[intOf];omega
    ·have Kt:=hid (show Q2a base dg.data.toList 0=some n from by rw[hE.out,Qdb dg k (by omega)];rfl)
     by_cases hg:4294967295<n
     ·have hF:=hid (show QMe s.data.toList=(0,2)from by rw[gN.out,Kt.out];unfold QPl;simp only;rw[if_pos (by omega)])
      go_wp2_with fail
      go_ret2
      exact⟨by rw[hF.out];rfl,_,rfl⟩
     ·have hF:=hid (show QMe s.data.toList=(n,0)from by rw[gN.out,Kt.out];unfold QPl;simp only;rw[if_neg (by omega)])
      go_wp2_with fail
      go_ret2
      exact⟨by rw[hF.out];rfl,_,rfl⟩
theorem Qrn(v:Int)(h0:0≤v)(h1:v≤255):((v.toNat.toUInt8).toNat:Int)=v:=by simp[Nat.toUInt8];omega
theorem Qte(acc:List UInt8)(v:Int)(h0:0≤v)(h1:v≤255):Lib.byteCells acc++[.int .u8 v]=Lib.byteCells (acc++[v.toNat.toUInt8]):=by
 unfold Lib.byteCells;rw[List.map_append,List.map_singleton,Qrn v h0 h1]
theorem Q8l(l:List UInt8):0≤(esc l).1∧(esc l).1≤255∧(esc l).2.1≤3∧(esc l).2.1≤l.length∧((esc l).2.2=0→1≤(esc l).2.1)∧(esc l).2.2≤21∧0≤(esc l).2.2:=by
 cases l with
 | nil=>simp[esc]
 | cons c r=>
  simp only[esc]
  repeat' (split;· simp)
  cases r with
  | nil=>simp[hx2]
  | cons a r=>
   simp only[hx2]
   repeat' (split;· simp)
   cases r with
   | nil=>simp[hx2]
   | cons b r=>
    have h1:=Qof a.toNat
    have h2:=Qof b.toNat
    simp only[hx2]
    repeat' (split;· simp)
    simp;omega
theorem Qmj(s:ByteArray)(w:World)(hs:s.size≤140737488355328)(h1:0<s.size) :
 Calls Tryz.prog 90 #[.string s] w fun e w'=>e = .returned (.tuple #[.string ⟨(qtA s.data.toList.length (s.data.toList.drop 1) [] 1).1.toArray⟩,.int .i64 (qtA s.data.toList.length (s.data.toList.drop 1) [] 1).2.1,.int .i64 (qtA s.data.toList.length (s.data.toList.drop 1) [] 1).2.2])∧Below w.heap.size w w':=by
 generalize hF:qtA s.data.toList.length (s.data.toList.drop 1) [] 1=R
 have HF:=hid hF;clear hF
 go_enter Tryz.func90,Tryz.ntmps90
 go_wp2_with fail
 go_loopw [6] (fun i wr=>∃(k f:Nat) (acc:List UInt8),1≤k∧k≤s.size∧s.size≤k+f∧acc.length<k∧i = .int .i64 k∧Hid (qtA f (s.data.toList.drop k) acc k=R)∧Lib.IsBuilder 154 5 w.heap.size w.heap.size (Lib.byteCells acc) wr∧Below w.heap.size w wr) (fun i _=>s.size-(intOf i).toNat)
 case atStart=>exact⟨1,s.data.toList.length,[],by omega,by omega,by simp,by simp,rfl,HF,Lib.fresh_isBuilder _ _ w,(Below.refl _ _).alloc (Nat.le_refl _) _⟩
 case round=>
  obtain⟨k,f,acc,Ht,hk,hf,sJ,rfl,hE,hB,gI⟩:=hrel
  by_cases Hh:k<s.size
  ·obtain⟨f,rfl⟩:∃f',f=f'+1:=⟨f-1,by omega⟩
   have Kt:Hid (R=if s[k].toNat=34 then(acc,k+1,0)else if s[k].toNat=10 then([],0,21)else if s[k].toNat=92 then
    (if (esc (s.data.toList.drop (k+1))).2.2≠0 then([],0,(esc (s.data.toList.drop (k+1))).2.2)else qtA f ((s.data.toList.drop (k+1)).drop (esc (s.data.toList.drop (k+1))).2.1) (acc++[(esc (s.data.toList.drop (k+1))).1.toNat.toUInt8]) (k+(esc (s.data.toList.drop (k+1))).2.1+1))
    else qtA f (s.data.toList.drop (k+1)) (acc++[s[k]]) (k+1)):=by
    show _=_
    rw[←hE.out,QBa s k Hh];rfl
   have GM:=gI.size
   have ke:(Lib.byteCells acc).length+1≤140737488355328:=by unfold Lib.byteCells;simp;omega
   by_cases K9:s[k].toNat=34
   ·have fh:((s[k].toNat:Int) == 34)=true:=by simp[K9]
    have hR:=hid (show R=(acc,k+1,0)from by rw[Kt.out,if_pos K9])
    clear K9
    go_wp2_with (first | (go_at_call 120;refine(Tryz.Builder_String_any _ _ acc _ hB GM).mono ?_;rintro e w1 ⟨rfl,Hf⟩))
    go_ret3
    exact⟨by rw[hR.out];simp,gI.trans Hf⟩
   ·have fh:((s[k].toNat:Int) == 34)=false:=by simp;omega
    by_cases Gf:s[k].toNat=10
    ·have Kh:((s[k].toNat:Int) == 10)=true:=by simp[Gf]
     have hR:=hid (show R=([],0,21)from by rw[Kt.out,if_neg K9,if_pos Gf])
     clear Gf K9
     go_wp2_with fail
     go_ret3
     exact⟨by rw[hR.out];rfl,gI⟩
    ·have Kh:((s[k].toNat:Int) == 10)=false:=by simp;omega
     by_cases h92:s[k].toNat=92
     ·have fq:((s[k].toNat:Int) == 92)=true:=by simp[h92]
      have oB:=Q8l (s.data.toList.drop (k+1))
      have Kk:=fun wx=>Qkj (s.extract (k+1) s.size) wx (by simp[maxLen];omega)
      rw[QLb]at Kk
      have hR:=hid (show R=(if (esc (s.data.toList.drop (k+1))).2.2≠0 then([],0,(esc (s.data.toList.drop (k+1))).2.2)else qtA f ((s.data.toList.drop (k+1)).drop (esc (s.data.toList.drop (k+1))).2.1) (acc++[(esc (s.data.toList.drop (k+1))).1.toNat.toUInt8]) (k+(esc (s.data.toList.drop (k+1))).2.1+1))from by rw[Kt.out,if_neg K9,if_neg Gf,if_pos h92])
      clear Kt h92 Gf K9
      generalize esc (s.data.toList.drop (k+1))=E at oB Kk hR
      obtain⟨ev,en,ee⟩:=E
      obtain⟨g1,g2,g3,g4,g5,g6,g7⟩:=oB
      simp only[List.length_drop]at g1 g2 g3 g4 g5 g6 g7 Kk hR
      have g4':en+(k+1)≤s.size:=by simp at g4;omega
      have HS:=hid Kk;clear Kk g4
      by_cases hz:ee=0
      ·subst hz
       have g5':=hid (g5 rfl);clear g5
       go_wp2_with (first | (go_at_call 121;refine(HS.out _).mono ?_;rintro e w1 ⟨rfl,nd,rfl⟩) | (go_at_call 122;refine(Qpj _ _ (Lib.byteCells acc) ev _ (by exact hB) ke (by exact GM)).mono ?_;rintro e w1 ⟨rfl,Hf,Ho⟩))
       go_roundw
       case rel=>exact⟨k+en+1,f,acc++[ev.toNat.toUInt8],by omega,by omega,by omega,by simp;omega,by go_num,by have:=hR.out;rw[if_neg (by simp),List.drop_drop]at this;show _=_;rw[this,show k+1+en=k+en+1 from by omega],.inr (by rw[←Qte acc ev g1 g2];exact Hf),(below_drewN gI nd).trans Ho⟩
       case measure=>simp[intOf];omega
      ·have hz':(ee != 0)=true:=by simpa using hz
       have HR:=hid (show R=([],0,ee)from by rw[hR.out,if_pos hz])
       clear hz g5
       go_wp2_with (first | (go_at_call 121;refine(HS.out _).mono ?_;rintro e w1 ⟨rfl,nd,rfl⟩))
       go_ret3
       exact⟨by rw[HR.out];rfl,below_drewN gI _⟩
     ·have fq:((s[k].toNat:Int) == 92)=false:=by simp;omega
      have hR:=hid (show R=qtA f (s.data.toList.drop (k+1)) (acc++[s[k]]) (k+1)from by rw[Kt.out,if_neg K9,if_neg Gf,if_neg h92])
      clear Kt h92 Gf K9
      go_wp2_with (first | (go_at_call 122;refine(Qpj _ _ (Lib.byteCells acc) _ _ hB ke GM).mono ?_;rintro e w1 ⟨rfl,Hf,Ho⟩))
      go_roundw
      case rel=>exact⟨k+1,f,acc++[s[k]],by omega,by omega,by omega,by simp;omega,by go_num,hR.out.symm,.inr (by simpa[Lib.byteCells]using Hf),gI.trans Ho⟩
      case measure=>simp[intOf];omega
  ·have hR:=hid (show R=([],0,21)from by rw[←hE.out,Qdb s k (by omega)];cases f <;> rfl)
   go_wp2_with fail
   go_ret3
   exact⟨by rw[hR.out];rfl,gI⟩
theorem QPc(s:ByteArray)(a b:Nat):s.extract a b=⟨((s.data.toList.take b).drop a).toArray⟩:=by
 apply ByteArray.ext
 apply Array.toList_inj.1
 rw[QPd]
theorem QBh(s:ByteArray)(g:Nat)(p:Int→Bool)(w:World)(hp:Qsi g p)(eg:∀args w,(callFunc g args).run Tryz.prog w = .ok (.enter g args) w)(hs:s.size≤maxLen) :
 Calls Tryz.prog 81 #[.string s,.int .i64 0,.func (.func g) #[] #[]] w fun e w'=>e = .returned (.int .i64 (QWa p s.data.toList))∧w=w':=
 QTg s 0 g p w hp eg hs (Nat.zero_le _)
theorem QCh(s:ByteArray)(g:Nat)(p:Int→Bool)(w:World)(hp:Qsi g p)(eg:∀args w,(callFunc g args).run Tryz.prog w = .ok (.enter g args) w)(hs:s.size≤maxLen)(h1:0<s.size) :
 Calls Tryz.prog 81 #[.string s,.int .i64 1,.func (.func g) #[] #[]] w fun e w'=>e = .returned (.int .i64 (QWa p (s.data.toList.drop 1)))∧w=w':=
 QTg s 1 g p w hp eg hs h1
def Qfb(file:Int)(t:Tok):Value:=.agg #[.int .i64 t.kind,.string ⟨t.text.toArray⟩,.int .i64 t.value,.int .i64 file,.int .i64 t.line,.int .i64 t.col]
def Q6c(s:ByteArray)(w:World)(e:Ending)(w':World):Prop:=
 e = .returned (.tuple #[Qfb 0 (QJa s.data.toList).1,.int .i64 (QJa s.data.toList).2.1,.int .i64 (QJa s.data.toList).2.2])∧Below w.heap.size w w'
theorem Qve(s:ByteArray):s.data.toList.length=s.size:=by simp
theorem Qnf(s:ByteArray)(n:Nat)(h:n<s.size):s.data.toList.getD n 0=s[n]:=by
 have:=QBa s n h
 rw[List.getD_eq_getElem?_getD,List.getElem?_eq_getElem (by simpa using h)];rfl
theorem Qym(s:ByteArray)(w:World)(hs:s.size≤140737488355328)(h1:0<s.size)(hc:Qka s[0].toNat=true∨(s[0].toNat:Int)=95∨(s[0].toNat:Int)=35) :
 Calls Tryz.prog 50 #[.string s] w (Q6c s w):=by
 have hm:s.size≤maxLen:=by unfold maxLen;omega
 have hH:=Qnc s h1
 have hF:=hid (show QJa s.data.toList=if QWa Q9a s.data.toList=s.data.toList.length∨(s.data.toList.getD (QWa Q9a s.data.toList) 0).toNat≠58 then(⟨1,s.data.toList.take (QWa Q9a s.data.toList),0,0,0⟩,QWa Q9a s.data.toList,0)
  else if QQf QPa (s.data.toList.take (QWa Q9a s.data.toList))=true then(⟨5,s.data.toList.take (QWa Q9a s.data.toList),0,0,0⟩,QWa Q9a s.data.toList+1,0)else(⟨0,[],0,0,0⟩,0,6)from by unfold QJa;simp only[hH];rw[if_pos hc])
 have gX:=fun wx=>QBh s 85 Q9a wx QAf Qze hm
 have hn:=QGc Q9a s.data.toList
 have Ha:=fun wx=>Q8d (s.extract 0 (QWa Q9a s.data.toList)) 87 QPa wx Qxd QVc (by unfold maxLen at *;simp;omega)
 rw[QPd,List.drop_zero]at Ha
 generalize QWa Q9a s.data.toList=n at hF gX hn Ha
 have HR:=hid gX;clear gX
 have HA:=hid Ha;clear Ha
 have hn':n≤s.size:=by simpa using hn
 clear hn hH
 have Hx:Qka s[0].toNat=true∨Qka s[0].toNat=false∧((s[0].toNat:Int) == 95)=true∨Qka s[0].toNat=false∧((s[0].toNat:Int) == 95)=false∧((s[0].toNat:Int) == 35)=true:=by
  by_cases a:Qka s[0].toNat=true
  ·exact .inl a
  ·have a':Qka s[0].toNat=false:=by simpa using a
   by_cases b:(s[0].toNat:Int)=95
   ·exact .inr (.inl ⟨a',by simpa using b⟩)
   ·have c:(s[0].toNat:Int)=35:=by rcases hc with h|h|h;exact absurd h a;exact absurd h b;exact h
    exact .inr (.inr ⟨a',by simpa using b,by simpa using c⟩)
 clear hc
 by_cases im:n=s.size
 ·have hR:=hid (show QJa s.data.toList=(⟨1,s.data.toList.take n,0,0,0⟩,n,0)from by rw[hF.out,if_pos (.inl (by simpa using im))])
  have ti:((n:Int) == (s.size:Int))=true:=by simp;omega
  clear im
  rcases Hx with h|⟨h,h'⟩|⟨h,h',h''⟩
  all_goals
   go_enter Tryz.func50,Tryz.ntmps50
   go_wp2_with (first | (go_at_call 84;refine(QFa _ _).mono ?_;rintro e w' ⟨rfl,rfl⟩) | (go_at_call 81;refine(HR.out _).mono ?_;rintro e w' ⟨rfl,rfl⟩))
   exact bodyPost_ret (v:=.tuple #[.agg #[.int .i64 1,.string (s.extract 0 n),.int .i64 0,.int .i64 0,.int .i64 0,.int .i64 0],.int .i64 n,.int .i64 0]) (by simp[results,Tryz.results50,go_sem]) rfl ⟨by rw[hR.out,QPc];rfl,(Below.refl _ _).alloc (Nat.le_refl _) _⟩
 ·have Hh:n<s.size:=by omega
  have ti:((n:Int) == (s.size:Int))=false:=by simp;omega
  have hg:=Qnf s n Hh
  by_cases Jh:s[n].toNat=58
  ·have fm:((s[n].toNat:Int) != 58)=false:=by simp[Jh]
   by_cases hw:QQf QPa (s.data.toList.take n)=true
   ·have hR:=hid (show QJa s.data.toList=(⟨5,s.data.toList.take n,0,0,0⟩,n+1,0)from by rw[hF.out,if_neg,if_pos hw];rintro (h|h);exact im (by simpa using h);rw[hg]at h;exact h Jh)
    clear im Jh hg
    rcases Hx with h|⟨h,h'⟩|⟨h,h',h''⟩
    all_goals
     go_enter Tryz.func50,Tryz.ntmps50
     go_wp2_with (first | (go_at_call 84;refine(QFa _ _).mono ?_;rintro e w' ⟨rfl,rfl⟩) | (go_at_call 81;refine(HR.out _).mono ?_;rintro e w' ⟨rfl,rfl⟩) | (go_at_call 86;refine(HA.out _).mono ?_;rintro e w' ⟨rfl,rfl⟩))
     exact bodyPost_ret (v:=.tuple #[.agg #[.int .i64 5,.string (s.extract 0 n),.int .i64 0,.int .i64 0,.int .i64 0,.int .i64 0],.int .i64 (n+1),.int .i64 0]) (by simp[results,Tryz.results50,go_sem]) rfl ⟨by rw[hR.out,QPc];rfl,(Below.refl _ _).alloc (Nat.le_refl _) _⟩
   ·have hw:QQf QPa (s.data.toList.take n)=false:=by simpa using hw
    have hR:=hid (show QJa s.data.toList=(⟨0,[],0,0,0⟩,0,6)from by rw[hF.out,if_neg,if_neg (by simp[hw])];rintro (h|h);exact im (by simpa using h);rw[hg]at h;exact h Jh)
    clear im Jh hg
    rcases Hx with h|⟨h,h'⟩|⟨h,h',h''⟩
    all_goals
     go_enter Tryz.func50,Tryz.ntmps50
     go_wp2_with (first | (go_at_call 84;refine(QFa _ _).mono ?_;rintro e w' ⟨rfl,rfl⟩) | (go_at_call 81;refine(HR.out _).mono ?_;rintro e w' ⟨rfl,rfl⟩) | (go_at_call 86;refine(HA.out _).mono ?_;rintro e w' ⟨rfl,rfl⟩))
     exact bodyPost_ret (v:=.tuple #[.agg #[.int .i64 0,.string ⟨#[]⟩,.int .i64 0,.int .i64 0,.int .i64 0,.int .i64 0],.int .i64 0,.int .i64 6]) (by simp[results,Tryz.results50,go_sem]) rfl ⟨by rw[hR.out];rfl,(Below.refl _ _).alloc (Nat.le_refl _) _⟩
  ·have fm:((s[n].toNat:Int) != 58)=true:=by simp;omega
   have hR:=hid (show QJa s.data.toList=(⟨1,s.data.toList.take n,0,0,0⟩,n,0)from by rw[hF.out,if_pos];right;rw[hg];exact Jh)
   clear im Jh hg
   rcases Hx with h|⟨h,h'⟩|⟨h,h',h''⟩
   all_goals
    go_enter Tryz.func50,Tryz.ntmps50
    go_wp2_with (first | (go_at_call 84;refine(QFa _ _).mono ?_;rintro e w' ⟨rfl,rfl⟩) | (go_at_call 81;refine(HR.out _).mono ?_;rintro e w' ⟨rfl,rfl⟩) | (go_at_call 86;refine(HA.out _).mono ?_;rintro e w' ⟨rfl,rfl⟩))
    exact bodyPost_ret (v:=.tuple #[.agg #[.int .i64 1,.string (s.extract 0 n),.int .i64 0,.int .i64 0,.int .i64 0,.int .i64 0],.int .i64 n,.int .i64 0]) (by simp[results,Tryz.results50,go_sem]) rfl ⟨by rw[hR.out,QPc];rfl,(Below.refl _ _).alloc (Nat.le_refl _) _⟩
theorem Qjh(c:Int)(hc:¬(Qka c=true∨c=95∨c=35)):Qka c=false∧(c == 95)=false∧(c == 35)=false:=by
 refine⟨?_,?_,?_⟩
 ·cases h:Qka c;rfl;exact absurd (.inl h) hc
 ·simp;intro h;exact hc (.inr (.inl h))
 ·simp;intro h;exact hc (.inr (.inr h))
theorem Qpl(s:ByteArray)(w:World)(hs:s.size≤140737488355328)(h1:0<s.size)(hc:¬(Qka s[0].toNat=true∨(s[0].toNat:Int)=95∨(s[0].toNat:Int)=35))(hd:QSa s[0].toNat=true) :
 Calls Tryz.prog 50 #[.string s] w (Q6c s w):=by
 have hm:s.size≤maxLen:=by unfold maxLen;omega
 have hH:=Qnc s h1
 have hF:=hid (show QJa s.data.toList=(⟨2,[],(QMe (s.data.toList.take (QWa QPa s.data.toList))).1,0,0⟩,QWa QPa s.data.toList,(QMe (s.data.toList.take (QWa QPa s.data.toList))).2)from by unfold QJa;simp only[hH];rw[if_neg hc,if_pos hd])
 have gX:=fun wx=>QBh s 87 QPa wx Qxd QVc hm
 have hn:=QGc QPa s.data.toList
 have Ge:=fun wx=>Qlj (s.extract 0 (QWa QPa s.data.toList)) wx (by unfold maxLen at *;simp;omega)
 rw[QPd,List.drop_zero]at Ge
 generalize QWa QPa s.data.toList=n at hF gX hn Ge
 generalize QMe (s.data.toList.take n)=N at hF Ge
 have HR:=hid gX;clear gX
 have HA:=hid Ge;clear Ge
 have hn':n≤s.size:=by simpa using hn
 clear hn hH
 obtain⟨h,h',h''⟩:=Qjh _ hc
 clear hc
 go_enter Tryz.func50,Tryz.ntmps50
 go_wp2_with (first | (go_at_call 84;refine(QFa _ _).mono ?_;rintro e w' ⟨rfl,rfl⟩) | (go_at_call 88;refine(QOa _ _).mono ?_;rintro e w' ⟨rfl,rfl⟩) | (go_at_call 81;refine(HR.out _).mono ?_;rintro e w' ⟨rfl,rfl⟩) | (go_at_call 89;refine(HA.out _).mono ?_;rintro e w' ⟨rfl,nd,rfl⟩))
 exact bodyPost_ret (v:=.tuple #[.agg #[.int .i64 2,.string ⟨#[]⟩,.int .i64 N.1,.int .i64 0,.int .i64 0,.int .i64 0],.int .i64 n,.int .i64 N.2]) (by simp[results,Tryz.results50,go_sem]) rfl ⟨by rw[hF.out];rfl,
  ((((((below_drewN ((Below.refl _ _).alloc (Nat.le_refl _) _) nd).setCell (Nat.le_refl _) _).setCell (Nat.le_refl _) _).setCell (Nat.le_refl _) _).setCell (Nat.le_refl _) _).setCell (Nat.le_refl _) _).setCell (Nat.le_refl _) _⟩
theorem six{w:World}{b:Nat}{x0 x1 x2 x3 x4 x5:Value}{t:TypeId}(h:Qca w b #[x0,x1,x2,x3,x4,x5] t) :
 (w.cell? ⟨b,0,none⟩=some x0∧w.cell? ⟨b,1,none⟩=some x1∧w.cell? ⟨b,2,none⟩=some x2∧w.cell? ⟨b,3,none⟩=some x3∧w.cell? ⟨b,4,none⟩=some x4∧w.cell? ⟨b,5,none⟩=some x5)∧
 (w.frozen? ⟨b,0,none⟩=false∧w.frozen? ⟨b,1,none⟩=false∧w.frozen? ⟨b,2,none⟩=false∧w.frozen? ⟨b,3,none⟩=false∧w.frozen? ⟨b,4,none⟩=false∧w.frozen? ⟨b,5,none⟩=false):=
 ⟨⟨h.cell 0,h.cell 1,h.cell 2,h.cell 3,h.cell 4,h.cell 5⟩,h.free 0,h.free 1,h.free 2,h.free 3,h.free 4,h.free 5⟩
theorem QOj(s:ByteArray)(w:World)(hs:s.size≤140737488355328)(h1:0<s.size)(hc:¬(Qka s[0].toNat=true∨(s[0].toNat:Int)=95∨(s[0].toNat:Int)=35))(hd:QSa s[0].toNat=false)(hq:(s[0].toNat:Int)=34) :
 Calls Tryz.prog 50 #[.string s] w (Q6c s w):=by
 have hH:=Qnc s h1
 have hF:=hid (show QJa s.data.toList=(⟨3,(qtA s.data.toList.length (s.data.toList.drop 1) [] 1).1,0,0,0⟩,(qtA s.data.toList.length (s.data.toList.drop 1) [] 1).2.1,(qtA s.data.toList.length (s.data.toList.drop 1) [] 1).2.2)from by unfold QJa;simp only[hH];rw[if_neg hc,if_neg (by simp[hd]),if_pos hq])
 have Ge:=fun wx=>Qmj s wx hs h1
 generalize qtA s.data.toList.length (s.data.toList.drop 1) [] 1=Q at hF Ge
 have HA:=hid Ge;clear Ge
 have hq':((s[0].toNat:Int) == 34)=true:=by simpa using hq
 obtain⟨h,h',h''⟩:=Qjh _ hc
 clear hc hq hH
 go_enter Tryz.func50,Tryz.ntmps50
 go_wp2_with (first | (go_at_call 84;refine(QFa _ _).mono ?_;rintro e w' ⟨rfl,rfl⟩) | (go_at_call 88;refine(QOa _ _).mono ?_;rintro e w' ⟨rfl,rfl⟩))
 refine(HA.out _).mono ?_
 rintro e w1 ⟨rfl,Hf⟩
 have hB:Qca w1 w.heap.size #[.int .i64 0,.string ⟨#[]⟩,.int .i64 0,.int .i64 0,.int .i64 0,.int .i64 0] 65:=(Hf.block w.heap.size (by simp)).trans (Qca.new w _ _)
 obtain⟨⟨c0,c1,c2,c3,c4,c5⟩,f0,f1,f2,f3,f4,f5⟩:=six hB
 have Hh:=hB.lt
 have Ho:Below w.heap.size w w1:=((Below.refl _ _).alloc (Nat.le_refl _) _).trans (Hf.mono (by simp))
 go_wp2_with fail
 exact bodyPost_ret (v:=.tuple #[.agg #[.int .i64 3,.string ⟨Q.1.toArray⟩,.int .i64 0,.int .i64 0,.int .i64 0,.int .i64 0],.int .i64 Q.2.1,.int .i64 Q.2.2]) (by simp[results,Tryz.results50,go_sem,c0,c1,c2,c3,c4,c5]) rfl ⟨by rw[hF.out];rfl,
  (((((Ho.setCell (Nat.le_refl _) _).setCell (Nat.le_refl _) _).setCell (Nat.le_refl _) _).setCell (Nat.le_refl _) _).setCell (Nat.le_refl _) _).setCell (Nat.le_refl _) _⟩
theorem QXn(s:ByteArray)(w:World)(hs:s.size≤140737488355328)(h1:0<s.size)(hc:¬(Qka s[0].toNat=true∨(s[0].toNat:Int)=95∨(s[0].toNat:Int)=35))(hd:QSa s[0].toNat=false)(hq:¬(s[0].toNat:Int)=34)(Mk:(s[0].toNat:Int)=38)(gy:1<s.size)(hl:Qka s[1].toNat=true∨(s[1].toNat:Int)=95) :
 Calls Tryz.prog 50 #[.string s] w (Q6c s w):=by
 have hm:s.size≤maxLen:=by unfold maxLen;omega
 have hH:=Qnc s h1
 have hG:=Qnf s 1 gy
 have hF:=hid (show QJa s.data.toList=(⟨6,(s.data.toList.take (QWa QPa (s.data.toList.drop 1)+1)).drop 1,0,0,0⟩,QWa QPa (s.data.toList.drop 1)+1,0)from by
  unfold QJa;simp only[hH];rw[if_neg hc,if_neg (by simp[hd]),if_neg hq,if_pos ⟨Mk,by simpa using gy,by rw[hG];rcases hl with h|h;exact .inl h;right;omega⟩])
 have gX:=fun wx=>QCh s 87 QPa wx Qxd QVc hm h1
 have hn:=QGc QPa (s.data.toList.drop 1)
 generalize QWa QPa (s.data.toList.drop 1)=n at hF gX hn
 have HR:=hid gX;clear gX
 have hn':n+1≤s.size:=by simp at hn;omega
 have hq':((s[0].toNat:Int) == 34)=false:=by simpa using hq
 have fj:((s[0].toNat:Int) == 38)=true:=by simpa using Mk
 obtain⟨h,h',h''⟩:=Qjh _ hc
 clear hn hH hG hc hq Mk
 by_cases KA:Qka s[1].toNat=true
 ·clear hl
  go_enter Tryz.func50,Tryz.ntmps50
  go_wp2_with (first | (go_at_call 84;refine(QFa _ _).mono ?_;rintro e w' ⟨rfl,rfl⟩) | (go_at_call 88;refine(QOa _ _).mono ?_;rintro e w' ⟨rfl,rfl⟩) | (go_at_call 81;refine(HR.out _).mono ?_;rintro e w' ⟨rfl,rfl⟩))
  exact bodyPost_ret (v:=.tuple #[.agg #[.int .i64 6,.string (s.extract 1 (n+1)),.int .i64 0,.int .i64 0,.int .i64 0,.int .i64 0],.int .i64 (n+1),.int .i64 0]) (by simp[results,Tryz.results50,go_sem]) rfl ⟨by rw[hF.out,QPc];rfl,(Below.refl _ _).alloc (Nat.le_refl _) _⟩
 ·have KW:((s[1].toNat:Int) == 95)=true:=by rcases hl with h|h;exact absurd h KA;simpa using h
  have KA:Qka s[1].toNat=false:=by simpa using KA
  clear hl
  go_enter Tryz.func50,Tryz.ntmps50
  go_wp2_with (first | (go_at_call 84;refine(QFa _ _).mono ?_;rintro e w' ⟨rfl,rfl⟩) | (go_at_call 88;refine(QOa _ _).mono ?_;rintro e w' ⟨rfl,rfl⟩) | (go_at_call 81;refine(HR.out _).mono ?_;rintro e w' ⟨rfl,rfl⟩))
  exact bodyPost_ret (v:=.tuple #[.agg #[.int .i64 6,.string (s.extract 1 (n+1)),.int .i64 0,.int .i64 0,.int .i64 0,.int .i64 0],.int .i64 (n+1),.int .i64 0]) (by simp[results,Tryz.results50,go_sem]) rfl ⟨by rw[hF.out,QPc];rfl,(Below.refl _ _).alloc (Nat.le_refl _) _⟩
def sgT(l:List UInt8):Tok × Nat × Int:=if Qyc l > 0 then(⟨4,l.take (Qyc l),0,0,0⟩,Qyc l,0)else(⟨0,[],0,0,0⟩,0,20)
theorem Q6k(l:List UInt8)(h:l≠[]):Qyc l≤l.length:=by
 unfold Qyc
 split
 ·rename_i h2
  simp only[QVa,List.any_cons,List.any_nil,Bool.or_false,Bool.or_eq_true]at h2
  rcases h2 with h2|h2|h2|h2|h2|h2|h2|h2 <;> exact Lib.hasPrefix_le h2
 ·split
  ·have:=List.length_pos_iff.2 h;omega
  ·omega
theorem Qzm(s:ByteArray)(w:World)(hs:s.size≤140737488355328)(h1:0<s.size)(hc:¬(Qka s[0].toNat=true∨(s[0].toNat:Int)=95∨(s[0].toNat:Int)=35))(hd:QSa s[0].toNat=false)(hq:¬(s[0].toNat:Int)=34)(Mk:¬((s[0].toNat:Int)=38∧1<s.size∧(Qka (s.data.toList.getD 1 0).toNat=true∨(s.data.toList.getD 1 0).toNat=95)))(KT:¬(s[0].toNat:Int)=47) :
 Calls Tryz.prog 50 #[.string s] w (Q6c s w):=by
 have hm:s.size≤maxLen:=by unfold maxLen;omega
 have hH:=Qnc s h1
 have hF:=hid (show QJa s.data.toList=sgT s.data.toList from by
  unfold QJa;simp only[hH];rw[if_neg hc,if_neg (by simp[hd]),if_neg hq,if_neg (by simpa using Mk),if_neg KT];rfl)
 have Hk:=fun wx=>QDh s wx hm h1
 have hn:=Q6k s.data.toList (by intro e;have h2:=Qve s;rw[e]at h2;simp only[List.length_nil]at h2;omega)
 unfold sgT at hF
 generalize Qyc s.data.toList=n at hF Hk hn
 have HR:=hid Hk;clear Hk
 have hn':n≤s.size:=by simpa using hn
 have hq':((s[0].toNat:Int) == 34)=false:=by simpa using hq
 have nD:((s[0].toNat:Int) == 47)=false:=by simpa using KT
 obtain⟨h,h',h''⟩:=Qjh _ hc
 have nA:((s[0].toNat:Int) == 38)=false∨((s[0].toNat:Int) == 38)=true∧¬1<s.size∨∃gy:1<s.size,((s[0].toNat:Int) == 38)=true∧Qka s[1].toNat=false∧((s[1].toNat:Int) == 95)=false:=by
  by_cases a:(s[0].toNat:Int)=38
  ·by_cases b:1<s.size
   ·rw[Qnf s 1 b]at Mk
    refine .inr (.inr ⟨b,by simpa using a,?_,?_⟩)
    ·cases hx:Qka s[1].toNat;rfl;exact absurd ⟨a,b,.inl hx⟩ Mk
    ·simp;intro hx;exact Mk ⟨a,b,.inr (by omega)⟩
   ·exact .inr (.inl ⟨by simpa using a,b⟩)
  ·exact .inl (by simpa using a)
 clear hn hH hc hq Mk KT
 by_cases Mw:0<n
 ·have hR:=hid (show QJa s.data.toList=(⟨4,s.data.toList.take n,0,0,0⟩,n,0)from by rw[hF.out,if_pos Mw])
  rcases nA with g|⟨g,g'⟩|⟨g,g',g2,g3⟩
  all_goals
   go_enter Tryz.func50,Tryz.ntmps50
   go_wp2_with (first | (go_at_call 84;refine(QFa _ _).mono ?_;rintro e w' ⟨rfl,rfl⟩) | (go_at_call 88;refine(QOa _ _).mono ?_;rintro e w' ⟨rfl,rfl⟩) | (go_at_call 92;refine(HR.out _).mono ?_;rintro e w' ⟨rfl,rfl⟩))
   exact bodyPost_ret (v:=.tuple #[.agg #[.int .i64 4,.string (s.extract 0 n),.int .i64 0,.int .i64 0,.int .i64 0,.int .i64 0],.int .i64 n,.int .i64 0]) (by simp[results,Tryz.results50,go_sem]) rfl ⟨by rw[hR.out,QPc];rfl,(Below.refl _ _).alloc (Nat.le_refl _) _⟩
 ·have Mw:n=0:=by omega
  subst Mw
  have hR:=hid (show QJa s.data.toList=(⟨0,[],0,0,0⟩,0,20)from by rw[hF.out,if_neg (by omega)])
  rcases nA with g|⟨g,g'⟩|⟨g,g',g2,g3⟩
  all_goals
   go_enter Tryz.func50,Tryz.ntmps50
   go_wp2_with (first | (go_at_call 84;refine(QFa _ _).mono ?_;rintro e w' ⟨rfl,rfl⟩) | (go_at_call 88;refine(QOa _ _).mono ?_;rintro e w' ⟨rfl,rfl⟩) | (go_at_call 92;refine(HR.out _).mono ?_;rintro e w' ⟨rfl,rfl⟩))
   exact bodyPost_ret (v:=.tuple #[.agg #[.int .i64 0,.string ⟨#[]⟩,.int .i64 0,.int .i64 0,.int .i64 0,.int .i64 0],.int .i64 0,.int .i64 20]) (by simp[results,Tryz.results50,go_sem]) rfl ⟨by rw[hR.out];rfl,(Below.refl _ _).alloc (Nat.le_refl _) _⟩
theorem QAm(s:ByteArray)(w:World)(hs:s.size≤140737488355328)(h1:0<s.size)(hc:¬(Qka s[0].toNat=true∨(s[0].toNat:Int)=95∨(s[0].toNat:Int)=35))(hd:QSa s[0].toNat=false)(hq:¬(s[0].toNat:Int)=34)(KT:(s[0].toNat:Int)=47) :
 Calls Tryz.prog 50 #[.string s] w (Q6c s w):=by
 have hm:s.size≤maxLen:=by unfold maxLen;omega
 have hH:=Qnc s h1
 have hF:=hid (show QJa s.data.toList=if QWa QYa (s.data.toList.drop 1) > 0∧QWa QYa (s.data.toList.drop 1)+1<s.data.toList.length∧(s.data.toList.getD (QWa QYa (s.data.toList.drop 1)+1) 0).toNat=47 then(⟨7,(s.data.toList.take (QWa QYa (s.data.toList.drop 1)+1)).drop 1,0,0,0⟩,QWa QYa (s.data.toList.drop 1)+2,0)else sgT s.data.toList from by
  unfold QJa;simp only[hH];rw[if_neg hc,if_neg (by simp[hd]),if_neg hq,if_neg (by rintro ⟨a,_⟩;omega),if_pos KT];rfl)
 have Hk:=fun wx=>QDh s wx hm h1
 have hn:=Q6k s.data.toList (by intro e;have h2:=Qve s;rw[e]at h2;simp only[List.length_nil]at h2;omega)
 have gX:=fun wx=>QCh s 91 QYa wx Qjk QDi hm h1
 have hu:=QGc QYa (s.data.toList.drop 1)
 unfold sgT at hF
 generalize Qyc s.data.toList=n at hF Hk hn
 generalize QWa QYa (s.data.toList.drop 1)=u at hF gX hu
 have HR:=hid Hk;clear Hk
 have HU:=hid gX;clear gX
 have hn':n≤s.size:=by simpa using hn
 have hu':u+1≤s.size:=by simp at hu;omega
 have hq':((s[0].toNat:Int) == 34)=false:=by simpa using hq
 have fj:((s[0].toNat:Int) == 38)=false:=by simp;omega
 have nD:((s[0].toNat:Int) == 47)=true:=by simpa using KT
 obtain⟨h,h',h''⟩:=Qjh _ hc
 clear hn hu hH hc hq KT
 by_cases hw:0<u∧u+1<s.size∧(s.data.toList.getD (u+1) 0).toNat=47
 ·obtain⟨g1,g2,g3⟩:=hw
  have hR:=hid (show QJa s.data.toList=(⟨7,(s.data.toList.take (u+1)).drop 1,0,0,0⟩,u+2,0)from by rw[hF.out,if_pos ⟨g1,by rw[Qve];exact g2,g3⟩])
  rw[Qnf s _ g2]at g3
  have g4:((s[u+1].toNat:Int) == 47)=true:=by simp[g3]
  clear g3
  go_enter Tryz.func50,Tryz.ntmps50
  go_wp2_with (first | (go_at_call 84;refine(QFa _ _).mono ?_;rintro e w' ⟨rfl,rfl⟩) | (go_at_call 88;refine(QOa _ _).mono ?_;rintro e w' ⟨rfl,rfl⟩) | (go_at_call 81;refine(HU.out _).mono ?_;rintro e w' ⟨rfl,rfl⟩) | (go_at_call 92;refine(HR.out _).mono ?_;rintro e w' ⟨rfl,rfl⟩))
  exact bodyPost_ret (v:=.tuple #[.agg #[.int .i64 7,.string (s.extract 1 (u+1)),.int .i64 0,.int .i64 0,.int .i64 0,.int .i64 0],.int .i64 (u+2),.int .i64 0]) (by simp[results,Tryz.results50,go_sem]) rfl ⟨by rw[hR.out,QPc];rfl,(Below.refl _ _).alloc (Nat.le_refl _) _⟩
 ·have JP:=hid (show QJa s.data.toList=if n > 0 then(⟨4,s.data.toList.take n,0,0,0⟩,n,0)else(⟨0,[],0,0,0⟩,0,20)from by rw[hF.out,if_neg (by rw[Qve];exact hw)])
  have MM:u=0∨(0<u∧¬u+1<s.size)∨(0<u∧∃g:u+1<s.size,((s[u+1].toNat:Int) == 47)=false):=by
   by_cases a:0<u
   ·by_cases b:u+1<s.size
    ·refine .inr (.inr ⟨a,b,?_⟩)
     rw[Qnf s _ b]at hw
     simp;intro hx;exact hw ⟨a,b,by omega⟩
    ·exact .inr (.inl ⟨a,b⟩)
   ·exact .inl (by omega)
  clear hw
  by_cases Mw:0<n
  ·have hR:=hid (show QJa s.data.toList=(⟨4,s.data.toList.take n,0,0,0⟩,n,0)from by rw[JP.out,if_pos Mw])
   rcases MM with rfl|⟨g,g'⟩|⟨g,g',g2⟩
   all_goals
    go_enter Tryz.func50,Tryz.ntmps50
    go_wp2_with (first | (go_at_call 84;refine(QFa _ _).mono ?_;rintro e w' ⟨rfl,rfl⟩) | (go_at_call 88;refine(QOa _ _).mono ?_;rintro e w' ⟨rfl,rfl⟩) | (go_at_call 81;refine(HU.out _).mono ?_;rintro e w' ⟨rfl,rfl⟩) | (go_at_call 92;refine(HR.out _).mono ?_;rintro e w' ⟨rfl,rfl⟩))
    exact bodyPost_ret (v:=.tuple #[.agg #[.int .i64 4,.string (s.extract 0 n),.int .i64 0,.int .i64 0,.int .i64 0,.int .i64 0],.int .i64 n,.int .i64 0]) (by simp[results,Tryz.results50,go_sem]) rfl ⟨by rw[hR.out,QPc];rfl,(Below.refl _ _).alloc (Nat.le_refl _) _⟩
  ·have Mw:n=0:=by omega
   subst Mw
   have hR:=hid (show QJa s.data.toList=(⟨0,[],0,0,0⟩,0,20)from by rw[JP.out,if_neg (by omega)])
   rcases MM with rfl|⟨g,g'⟩|⟨g,g',g2⟩
   all_goals
    go_enter Tryz.func50,Tryz.ntmps50
    go_wp2_with (first | (go_at_call 84;refine(QFa _ _).mono ?_;rintro e w' ⟨rfl,rfl⟩) | (go_at_call 88;refine(QOa _ _).mono ?_;rintro e w' ⟨rfl,rfl⟩) | (go_at_call 81;refine(HU.out _).mono ?_;rintro e w' ⟨rfl,rfl⟩) | (go_at_call 92;refine(HR.out _).mono ?_;rintro e w' ⟨rfl,rfl⟩))
    exact bodyPost_ret (v:=.tuple #[.agg #[.int .i64 0,.string ⟨#[]⟩,.int .i64 0,.int .i64 0,.int .i64 0,.int .i64 0],.int .i64 0,.int .i64 20]) (by simp[results,Tryz.results50,go_sem]) rfl ⟨by rw[hR.out];rfl,(Below.refl _ _).alloc (Nat.le_refl _) _⟩
theorem QJl(s:ByteArray)(w:World)(hs:s.size≤140737488355328)(h1:0<s.size):Calls Tryz.prog 50 #[.string s] w (Q6c s w):=by
 by_cases hc:Qka s[0].toNat=true∨(s[0].toNat:Int)=95∨(s[0].toNat:Int)=35
 ·exact Qym s w hs h1 hc
 ·cases hd:QSa s[0].toNat
  ·by_cases hq:(s[0].toNat:Int)=34
   ·exact QOj s w hs h1 hc hd hq
   ·by_cases KT:(s[0].toNat:Int)=47
    ·exact QAm s w hs h1 hc hd hq KT
    ·by_cases Mk:(s[0].toNat:Int)=38∧1<s.size∧(Qka (s.data.toList.getD 1 0).toNat=true∨(s.data.toList.getD 1 0).toNat=95)
     ·obtain⟨a,b,c⟩:=Mk
      rw[Qnf s 1 b]at c
      exact QXn s w hs h1 hc hd hq a b (by rcases c with c|c;exact .inl c;right;omega)
     ·exact Qzm s w hs h1 hc hd hq Mk KT
  ·exact Qpl s w hs h1 hc hd
def QHb(file:Int)(t:Tok):List Value:=[.int .i64 t.kind,.string ⟨t.text.toArray⟩,.int .i64 t.value,.int .i64 file,.int .i64 t.line,.int .i64 t.col]
def Qyb(file:Int)(l:List Tok):List Value:=l.flatMap (QHb file)
def QGb(p:Int × Int × Int):Value:=.agg #[.int .i64 p.1,.int .i64 p.2.1,.int .i64 p.2.2]
theorem Qrc(file:Int)(l:List Tok)(t:Tok):Qyb file (l++[t])=Qyb file l++QHb file t:=by simp[Qyb]
theorem Qki(file:Int)(t:Tok):∀u∈QHb file t,u.oneCell'=true:=by
 intro u hu
 simp only[QHb,List.mem_cons,List.not_mem_nil,or_false]at hu
 rcases hu with rfl|rfl|rfl|rfl|rfl|rfl <;> rfl
def Qbe(s:ByteArray)(file:Int)(w:World)(e:Ending)(w':World):Prop:=
 ∃v,e = .returned (.tuple #[v,QGb (QUb s.data.toList file).2.1,.int .i64 (QUb s.data.toList file).2.2])∧
  w'.ownsRow w.heap.size 65 6 v (QUb s.data.toList file).1.length (Qyb file (QUb s.data.toList file).1)∧Below w.heap.size w w'
theorem QLc{w:World}{base:Nat}{e:TypeId}{size:Nat}{v:Value}{n:Nat}{xs:List Value}(h:w.ownsRow base e size v n xs):∃a cap,v = .slice a n cap:=by
 rcases h.2 with⟨rfl,rfl⟩|⟨g,cap,cur,rfl,_⟩
 ·exact⟨none,0,rfl⟩
 ·exact⟨_,_,rfl⟩
theorem QLf{w:World}{base base':Nat}{e:TypeId}{size:Nat}{v:Value}{n:Nat}{xs:List Value}(h:w.ownsRow base e size v n xs)(hb:base'≤base):w.ownsRow base' e size v n xs:=by
 refine⟨h.1,?_⟩
 rcases h.2 with hn|⟨g,cap,cur,rfl,hg,r⟩
 ·exact .inl hn
 ·exact .inr ⟨g,cap,cur,rfl,by omega,r⟩
theorem tri{w:World}{b:Nat}{x0 x1 x2:Value}{t:TypeId}(h:Qca w b #[x0,x1,x2] t) :
 w.cell? ⟨b,0,none⟩=some x0∧w.cell? ⟨b,1,none⟩=some x1∧w.cell? ⟨b,2,none⟩=some x2∧w.frozen? ⟨b,0,none⟩=false∧w.frozen? ⟨b,1,none⟩=false∧w.frozen? ⟨b,2,none⟩=false:=
 ⟨h.cell 0,h.cell 1,h.cell 2,h.free 0,h.free 1,h.free 2⟩
section
variable{file:Int}{f:Nat}{l:List UInt8}{p:Int × Int}{acc:List Tok}{B:Nat × Bool}
theorem QTm(hB:blk l.length l=B)(h:B.2=true):rdA file (f+1) l p acc=([],(file,(adv (l.take B.1) p).1,(adv (l.take B.1) p).2),21):=by
 subst hB;simp only[rdA];rw[if_pos h]
theorem QUk(hB:blk l.length l=B)(h:B.2=false)(h2:acc.length=6000):rdA file (f+1) l p acc=([],(file,(adv (l.take B.1) p).1,(adv (l.take B.1) p).2),3):=by
 subst hB;simp only[rdA];rw[if_neg (by simp[h]),if_pos h2]
theorem QUm(hB:blk l.length l=B)(h:B.2=false)(h2:acc.length≠6000)(h3:l.drop B.1=[]):rdA file (f+1) l p acc=(acc++[⟨8,[],0,(adv (l.take B.1) p).1,(adv (l.take B.1) p).2⟩],(0,0,0),0):=by
 subst hB;simp only[rdA];rw[if_neg (by simp[h]),if_neg h2,if_pos h3]
theorem QVm(hB:blk l.length l=B)(h:B.2=false)(h2:acc.length≠6000)(h3:l.drop B.1≠[]){t:Tok × Nat × Int}(ht:QJa (l.drop B.1)=t)(h4:t.2.2≠0):rdA file (f+1) l p acc=([],(file,(adv (l.take B.1) p).1,(adv (l.take B.1) p).2),t.2.2):=by
 subst hB ht;simp only[rdA];rw[if_neg (by simp[h]),if_neg h2,if_neg h3,if_pos h4]
theorem Q1o(hB:blk l.length l=B)(h:B.2=false)(h2:acc.length≠6000)(h3:l.drop B.1≠[]){t:Tok × Nat × Int}(ht:QJa (l.drop B.1)=t)(h4:t.2.2=0) :
 rdA file (f+1) l p acc=rdA file f ((l.drop B.1).drop t.2.1) (adv ((l.drop B.1).take t.2.1) (adv (l.take B.1) p)) (acc++[{ t.1 with line:=(adv (l.take B.1) p).1,col:=(adv (l.take B.1) p).2 }]):=by
 subst hB ht;simp only[rdA];rw[if_neg (by simp[h]),if_neg h2,if_neg h3,if_neg (by simp[h4])]
end
def QSr(s:ByteArray)(file:Int)(w:World)(R:List Tok × (Int × Int × Int) × Int)(f:Nat)(v:Value)(wr:World):Prop:=
 ∃(j:Nat) (l c:Int) (toks:List Tok),j≤s.size∧s.size<j+f∧1≤l∧l≤j+1∧1≤c∧c≤j+1∧rdA file f (s.data.toList.drop j) (l,c) toks=R∧toks.length≤6000∧
  wr.ownsRow (w.heap.size+2) 65 6 v toks.length (Qyb file toks)∧Qca wr (w.heap.size+1) (Q6b s j file l c) 98∧Qca wr w.heap.size #[.int .i64 0,.int .i64 0,.int .i64 0] 27∧Below w.heap.size w wr
theorem QSh:(Tryz.prog.info? 65).map (fun i=>(i.zero,i.size,i.bytes))=some (some (.agg #[.int .i64 0,.string ⟨#[]⟩,.int .i64 0,.int .i64 0,.int .i64 0,.int .i64 0]),6,56):=by kernel_rfl
theorem QIl(s:ByteArray)(file:Int)(w:World)(hs:s.size≤maxLen)(h0:QFf w) :
 Calls Tryz.prog 27 #[.string s,.int .i64 file] w (Qbe s file w):=by
 unfold maxLen at hs
 by_cases aQ:16000<s.size
 ·have hF:=hid (show QUb s.data.toList file=([],(0,0,0),3)from by unfold QUb;rw[Qve,if_pos aQ])
  go_enter Tryz.func27,Tryz.ntmps27
  go_wp2_with fail
  exact bodyPost_ret (v:=.tuple #[.slice none 0 0,.agg #[.int .i64 0,.int .i64 0,.int .i64 0],.int .i64 3]) (by simp[results,Tryz.results27,go_sem]) rfl ⟨_,by rw[hF.out];rfl,by rw[hF.out];exact World.ownsRow_nil _ _ _ _,(Below.refl _ _).alloc (Nat.le_refl _) _⟩
 ·have aQ:s.size≤16000:=by omega
  have hF:QUb s.data.toList file=rdA file (s.size+1) s.data.toList (1,1) []:=by unfold QUb;rw[Qve,if_neg (by omega)]
  unfold Qbe
  generalize QUb s.data.toList file=R at hF
  have HF:=hid hF;clear hF
  go_enter Tryz.func27,Tryz.ntmps27
  go_wp2_with fail
  go_loopg [8] (s.size+1) (fun f v wr=>QSr s file w R f v wr)
  case atStart=>exact⟨0,1,1,[],by omega,by omega,by omega,by omega,by omega,by omega,HF.out.symm,by simp,World.ownsRow_nil _ _ _ _,by
   have:=Qca.new (w.alloc (.cells #[.int .i64 0,.int .i64 0,.int .i64 0] 27)) (Q6b s 0 file 1 1) 98
   rw[show(w.alloc (.cells #[.int .i64 0,.int .i64 0,.int .i64 0] 27)).heap.size=w.heap.size+1 from by simp]at this
   exact this,(Qca.new w _ _).alloc _,((Below.refl _ _).alloc (Nat.le_refl _) _).alloc (by simp) _⟩
  case round=>
   obtain⟨j,l,c,toks,hj,hf,KA,KW,K5,kO,hE,H7,Hi,hH,hP,gI⟩:=hrel
   obtain⟨f,rfl⟩:∃f',gk=f'+1:=⟨gk-1,by omega⟩
   have xE:QFf wr:=h0.keeps (Qaa.of_fresh gI (fun _=>False)) (fun e=>e)
   have kW:=Qjj s j file l c (w.heap.size+1) wr hH hj aQ KA KW K5 kO xE
   unfold QNe at kW
   have GP:=Qzk s j (s.size-j) hj
   have ME:blk (s.data.toList.drop j).length (s.data.toList.drop j)=blk (s.size-j) (s.data.toList.drop j):=by congr 1;simp
   generalize blk (s.size-j) (s.data.toList.drop j)=B at kW GP ME
   obtain⟨bn,bx⟩:=B
   simp only at kW GP
   have Hm:=Qdh ((s.data.toList.drop j).take bn) (l,c) KA K5
   have Hl:((s.data.toList.drop j).take bn).length≤bn:=by simp;omega
   have Gx:=@QTm file f (s.data.toList.drop j) (l,c) toks _ ME
   have gZ:=@QUk file f (s.data.toList.drop j) (l,c) toks _ ME
   have gq:=@QUm file f (s.data.toList.drop j) (l,c) toks _ ME
   have gu:=@QVm file f (s.data.toList.drop j) (l,c) toks _ ME
   have gv:=@Q1o file f (s.data.toList.drop j) (l,c) toks _ ME
   simp only at Gx gZ gq gu gv Hm
   rw[List.drop_drop]at gq gu gv
   rw[hE]at Gx gZ gq gu gv
   generalize adv ((s.data.toList.drop j).take bn) (l,c)=p1 at kW Hm Gx gZ gq gu gv
   obtain⟨l1,c1⟩:=p1
   simp only at kW Hm Gx gZ gq gu gv
   obtain⟨k1,k2,k3,k4⟩:=Hm
   have k3':l1≤(j+bn:Nat)+1:=by omega
   have k4':c1≤(j+bn:Nat)+1:=by omega
   clear hE k3 k4 Hl ME
   generalize Gr:j+bn=j2 at kW GP gq gu gv k3' k4'
   have vE:j≤j2:=by omega
   clear Gr
   have HC:=hid Gx;clear Gx
   have ej:=hid gZ;clear gZ
   have em:=hid gq;clear gq
   have lG:=hid gu;clear gu
   have lH:=hid gv;clear gv
   have qV:=hid kW;clear kW
   obtain⟨ao,cap,rfl⟩:=QLc Hi
   go_wp2_with fail
   refine qV.out.mono ?_
   rintro e w1 ⟨rfl,ko,g9⟩
   have mf:=hP.keeps g9 (by omega)
   have Hf:Below w.heap.size w w1:=gI.trans (g9.below gI.size (by intro i hi;omega))
   have gJ:=Qba Hi g9 (by intro g hg;have:=(Hi.lt g hg).1;omega)
   have gy:=g9.size
   have ig:=ko.lt
   have gM:=Qje ko
   obtain⟨q0,q1,q2,q3,q4,q5⟩:=tri mf
   obtain⟨r0,r1,r2,r3,r4,r5,r6,r7,r8,r9⟩:=Qje ko
   clear gM
   cases bx with
   | true=>
    have hR:=hid (HC.out rfl)
    go_wp2_with fail
    go_region
    go_wp2_with fail
    exact bodyPost_ret (v:=.tuple #[.slice none 0 0,.agg #[.int .i64 file,.int .i64 l1,.int .i64 c1],.int .i64 21]) (by simp[results,Tryz.results27,go_sem,q0,q1,q2]) rfl ⟨_,by rw[hR.out];rfl,by rw[hR.out];exact World.ownsRow_nil _ _ _ _,(((Hf.setCell (Nat.le_refl _) _).setCell (Nat.le_refl _) _).setCell (Nat.le_refl _) _).drew⟩
   | false=>
    by_cases h6:toks.length=6000
    ·have h6':((toks.length:Int) == 6000)=true:=by simp[h6]
     have hR:=hid (ej.out rfl h6)
     clear h6
     go_wp2_with fail
     go_region
     go_wp2_with fail
     exact bodyPost_ret (v:=.tuple #[.slice none 0 0,.agg #[.int .i64 file,.int .i64 l1,.int .i64 c1],.int .i64 3]) (by simp[results,Tryz.results27,go_sem,q0,q1,q2]) rfl ⟨_,by rw[hR.out];rfl,by rw[hR.out];exact World.ownsRow_nil _ _ _ _,(((Hf.setCell (Nat.le_refl _) _).setCell (Nat.le_refl _) _).setCell (Nat.le_refl _) _).drew⟩
    ·have h6':((toks.length:Int) == 6000)=false:=by simp;omega
     have sy:toks.length<6000:=by omega
     have H6:=hid h6;clear h6
     have kv:=fun wx hh=>QAh s j2 file l1 c1 (w.heap.size+1) wx hh GP (by unfold maxLen;omega)
     by_cases gj:j2=s.size
     ·have hR:=hid (em.out rfl H6.out (Qdb s j2 (by omega)))
      subst gj
      have he:s.extract s.size s.size=ByteArray.empty:=QEd _ (by simp)
      rw[he]at kv
      have mC:=hid kv;clear kv he
      go_wp2_with fail
      refine(mC.out _ ko).mono ?_
      rintro e w2 ⟨rfl,nd,rfl⟩
      obtain⟨i0,hi,GE,GF,GA⟩:=info_parts QSh
      go_wp2_with (at_builtin;refine wpList_append_own _ rfl _ _ 57 rfl (w.heap.size+2) 65 i0 _ 6 56 Tryz.underlying57 hi GE GF GA rfl (by decide) _ _ _ rfl (gJ.alloc _) ⟨w1.heap.size,0,none⟩ 1 1 (QHb file ⟨8,[],0,l1,c1⟩) rfl rfl ?c1 ?c2 ?c3 ?c4 ?c5 ?_)
      case c1=>exact Q3a (w1.drewN nd) _ _ _ rfl _ rfl
      case c2=>exact Qki _ _
      case c3=>unfold maxLen;omega
      case c4=>omega
      case c5=>have:=mf.lt;simp;omega
      intro v' w3 Hq Hb _
      have jU:∀g,(Value.slice ao toks.length cap).ownBlock=some g→w.heap.size+2≤g:=fun g hg=>(gJ.lt g hg).1
      have kC:Qca w3 w.heap.size #[.int .i64 0,.int .i64 0,.int .i64 0] 27:=((mf.drewN nd).alloc _).grown Hb (fun e=>by have:=jU _ e;omega)
      have gm:Below w.heap.size w w3:=((below_drewN Hf nd).alloc (by simpa using Hf.size) _).grown Hb (by have:=Hf.size;simp;omega) (fun g hg=>by have:=jU g hg;omega)
      obtain⟨p0,p1,p2,p3,p4,p5⟩:=tri kC
      have gK:w3.ownsRow w.heap.size 65 6 v' (toks.length+1) (Qyb file (toks++[⟨8,[],0,l1,c1⟩])):=by rw[Qrc];exact QLf Hq (by omega)
      have ik:∀g,v'.ownBlock=some g→¬g=w.heap.size:=fun g hg=>by have:=(Hq.lt g hg).1;omega
      clear Hq Hb
      obtain⟨ao',cap',rfl⟩:=QLc gK
      go_wp2_with fail
      exact bodyPost_ret (v:=.tuple #[.slice ao' (toks.length+1) cap',.agg #[.int .i64 0,.int .i64 0,.int .i64 0],.int .i64 0]) (by simp[results,Tryz.results27,go_sem,p0,p1,p2]) rfl ⟨_,by rw[hR.out];rfl,by
       rw[hR.out]
       simp only[List.length_append,List.length_singleton]
       exact Qba gK ((((Qaa.refl (fun i=>i=w.heap.size) w3).setCell (.inr rfl) _).setCell (.inr rfl) _).setCell (.inr rfl) _) ik,
       ((gm.setCell (Nat.le_refl _) _).setCell (Nat.le_refl _) _).setCell (Nat.le_refl _) _⟩
     ·have Gr:j2<s.size:=by omega
      have jU:=QLb s j2
      have gn:(s.extract j2 s.size).size=s.size-j2:=by simp
      have cw:s.data.toList.drop j2≠[]:=by rw[QBa s j2 Gr];simp
      have kr:=fun wx=>QJl (s.extract j2 s.size) wx (by omega) (by omega)
      unfold Q6c at kr
      rw[jU]at kr
      have Gy:=Qph (s.data.toList.drop j2) cw
      have bW:=fun n hn wx hh=>QEh s j2 n file l1 c1 (w.heap.size+1) wx hh hn (by omega) k1 k3' k2 k4'
      have mJ:=hid (fun h=>lG.out rfl H6.out cw rfl h)
      have mK:=hid (fun h=>lH.out rfl H6.out cw rfl h)
      clear lG lH em ej HC
      simp only[List.length_drop]at Gy
      generalize QJa (s.data.toList.drop j2)=T at kr Gy mJ mK
      generalize s.extract j2 s.size=r at kv gn kr
      have m9:0<r.size:=by omega
      have Hn:=Qzc r m9
      have Jr:=Qub r m9
      obtain⟨tk,tn,te⟩:=T
      simp only at kr Gy mJ mK
      have mC:=hid kv;clear kv
      have gU:=hid kr;clear kr
      have nt:=hid gn;clear gn
      have eT:=hid bW;clear bW
      clear gj jU
      by_cases hte:te=0
      ·subst hte
       obtain⟨t1,t2⟩:=Gy rfl
       have t2':j2+tn≤s.size:=by rw[Qve]at t2;omega
       have hR:=hid (mK.out rfl)
       clear mJ mK Gy t2
       go_wp2_with fail
       refine(mC.out _ ko).mono ?_
       rintro e w2 ⟨rfl,nd,rfl⟩
       go_wp2_with fail
       refine(mC.out _ (ko.drewN nd)).mono ?_
       rintro e w2 ⟨rfl,nd2,rfl⟩
       go_wp2_with fail
       refine(gU.out _).mono ?_
       rintro e w2 ⟨rfl,K4⟩
       have jE:Below w1.heap.size w1 w2:=⟨K4.os,K4.tape,K4.output,K4.size,K4.block⟩
       unfold Qfb
       have jf:Qaa (fun _=>False) w1 w2:=Qaa.of_fresh jE _
       have Gv:=ko.keeps jf (fun e=>e)
       have GR:=mf.keeps jf (fun e=>e)
       have gK:=Qba gJ jf (fun _ _ e=>e)
       have Ho:Below w.heap.size w w2:=Hf.trans (jE.mono Hf.size)
       have gB:=jf.size
       clear K4 r0 r1 r2 r3 r4 r5 r6 r7 r8 r9
       obtain⟨r0,r1,r2,r3,r4,r5,r6,r7,r8,r9⟩:=Qje Gv
       have kp:=Gv.lt
       obtain⟨i0,hi,GE,GF,GA⟩:=info_parts QSh
       go_wp2_with (at_builtin;refine wpList_append_own _ rfl _ _ 57 rfl (w.heap.size+2) 65 i0 _ 6 56 Tryz.underlying57 hi GE GF GA rfl (by decide) _ _ _ rfl ((gK.alloc _).alloc _) ⟨w2.heap.size+1,0,none⟩ 1 1 (QHb file { tk with line:=l1,col:=c1 }) rfl rfl ?c1 ?c2 ?c3 ?c4 ?c5 ?_)
       case c1=>exact Q3a _ _ _ _ (by simp) _ rfl
       case c2=>exact Qki _ _
       case c3=>unfold maxLen;omega
       case c4=>omega
       case c5=>have:=mf.lt;have:=Ho.size;simp;omega
       intro v' w3 Hq Hb _
       have jU:∀g,(Value.slice ao toks.length cap).ownBlock=some g→w.heap.size+2≤g:=fun g hg=>(gJ.lt g hg).1
       have kC:Qca w3 w.heap.size #[.int .i64 0,.int .i64 0,.int .i64 0] 27:=((GR.alloc _).alloc _).grown Hb (fun e=>by have:=jU _ e;omega)
       have kN:Qca w3 (w.heap.size+1) (Q6b s j2 file l1 c1) 98:=((Gv.alloc _).alloc _).grown Hb (fun e=>by have:=jU _ e;omega)
       have gm:Below w.heap.size w w3:=((Ho.alloc Ho.size _).alloc (by have:=Ho.size;simp;omega) _).grown Hb (by have:=Ho.size;simp;omega) (fun g hg=>by have:=jU g hg;omega)
       have kt:w3.ownsRow (w.heap.size+2) 65 6 v' (toks.length+1) (Qyb file (toks++[{ tk with line:=l1,col:=c1 }])):=by rw[Qrc];exact Hq
       have ik:∀g,v'.ownBlock=some g→¬g=w.heap.size+1:=fun g hg=>by have:=(Hq.lt g hg).1;omega
       clear Hq Hb
       have jH:=kN.lt
       clear r0 r1 r2 r3 r4 r5 r6 r7 r8 r9
       go_wp2_with fail
       refine(eT.out tn t2' _ kN).mono ?_
       rintro e w4 ⟨rfl,mt,gD⟩
       have jO:=kC.keeps gD (by omega)
       have mQ:Below w.heap.size w w4:=gm.trans (gD.below gm.size (by intro i hi;omega))
       have Gi:=Qba kt gD ik
       go_wp2_with fail
       go_roundg f
       case measure=>omega
       case rel=>
        have Hm:=Qdh ((s.data.toList.drop j2).take tn) (l1,c1) k1 k2
        have Kl:((s.data.toList.drop j2).take tn).length≤tn:=by simp;omega
        have mu:=hR.out.symm
        rw[List.drop_drop]at mu
        exact⟨j2+tn,_,_,toks++[{ tk with line:=l1,col:=c1 }],t2',by omega,Hm.1,by simp at Hm;omega,Hm.2.1,by simp at Hm;omega,mu,by simp;omega,by simpa using Gi,mt,jO,mQ⟩
      ·have hR:=hid (mJ.out hte)
       have tJ:(te != 0)=true:=by simpa using hte
       clear mJ mK Gy hte
       go_wp2_with fail
       refine(mC.out _ ko).mono ?_
       rintro e w2 ⟨rfl,nd,rfl⟩
       go_wp2_with fail
       refine(mC.out _ (ko.drewN nd)).mono ?_
       rintro e w2 ⟨rfl,nd2,rfl⟩
       go_wp2_with fail
       refine(gU.out _).mono ?_
       rintro e w2 ⟨rfl,K4⟩
       have jE:Below w1.heap.size w1 w2:=⟨K4.os,K4.tape,K4.output,K4.size,K4.block⟩
       unfold Qfb
       have jf:Qaa (fun _=>False) w1 w2:=Qaa.of_fresh jE _
       have Gv:=ko.keeps jf (fun e=>e)
       have GR:=mf.keeps jf (fun e=>e)
       have Ho:Below w.heap.size w w2:=Hf.trans (jE.mono Hf.size)
       have gB:=jf.size
       clear K4 r0 r1 r2 r3 r4 r5 r6 r7 r8 r9 q0 q1 q2 q3 q4 q5
       obtain⟨q0,q1,q2,q3,q4,q5⟩:=tri GR
       obtain⟨r0,r1,r2,r3,r4,r5,r6,r7,r8,r9⟩:=Qje Gv
       have kp:=Gv.lt
       have ii:=GR.lt
       go_wp2_with fail
       go_region
       go_wp2_with fail
       exact bodyPost_ret (v:=.tuple #[.slice none 0 0,.agg #[.int .i64 file,.int .i64 l1,.int .i64 c1],.int .i64 te]) (by simp[results,Tryz.results27,go_sem,q0,q1,q2,ii]) rfl ⟨_,by rw[hR.out];rfl,by rw[hR.out];exact World.ownsRow_nil _ _ _ _,((((Ho.setCell (Nat.le_refl _) _).setCell (Nat.le_refl _) _).setCell (Nat.le_refl _) _).alloc (by simpa using Ho.size) _).drew⟩
theorem Qlq{w:World}{base:Nat}{T:TypeId}{v:Value}{file:Int}{toks:List Tok}(h:w.ownsRow base T 6 v toks.length (Qyb file toks))(Hn:toks≠[]) :
 ∃g cap,v = .slice (some ⟨g,0,none⟩) toks.length cap∧base≤g∧g<w.heap.size∧toks.length≤cap∧∀(i:Nat) (t:Tok),toks[i]? = some t→∀(k:Nat) (u:Value),(QHb file t)[k]? = some u→w.cell? ⟨g,6*i+k,none⟩=some u:=by
 have Ga:=List.length_pos_iff.2 Hn
 rcases h.2 with⟨_,h0⟩|⟨g,cap,cur,rfl,hb,hh,hcap,hr⟩
 ·omega
 ·refine⟨g,cap,rfl,hb,lt_of_block hh,hcap,?_⟩
  intro i t ht k u hu
  have hc:=h.cells (g:=g) rfl (6*i+k) u
  have Kj:(⟨g,0,none⟩:Addr).add (6*i+k)=⟨g,6*i+k,none⟩:=by unfold Addr.add;split <;> simp_all
  rw[Kj]at hc
  apply hc
  have hk:k<6:=by
   rcases Nat.lt_or_ge k 6 with h|h
   ·exact h
   ·rw[List.getElem?_eq_none (by simpa[QHb]using h)]at hu;cases hu
  clear hc hcap hr hh hb h Ga Kj Hn
  unfold Qyb
  induction toks generalizing i with
  | nil=>simp at ht
  | cons a l ih=>
   rw[List.flatMap_cons]
   cases i with
   | zero=>
    simp at ht;subst ht
    rw[List.getElem?_append_left (by simp[QHb];omega)]
    simpa using hu
   | succ i=>
    rw[List.getElem?_append_right (by simp[QHb];omega)]
    have:=ih i (by simpa using ht)
    rw[←this];congr 1;simp[QHb];omega
def QCb(cs:List QJb):List Value:=cs.flatMap fun c=>[.int .i64 c.value,.string c.label]
def QDa:List QRa→List Value→List Value
 | p::ps,v::vs=>.int .i64 p.kind::v :: .string p.text::QDa ps vs
 | _,_=>[]
def QRb(file:Int):List Qwa→List Value→List Value
 | d::ds,v::vs=>.int .i64 d.kind :: .string d.label :: .string d.name::v :: .int .i64 file :: .int .i64 d.line :: .int .i64 d.col::QRb file ds vs
 | _,_=>[]
theorem Qid(cs:List QJb)(c:QJb):QCb (cs++[c])=QCb cs++[.int .i64 c.value,.string c.label]:=by simp[QCb]
theorem Qld:∀(ps:List QRa) (vs:List Value) (p:QRa) (v:Value),vs.length=ps.length→QDa (ps++[p]) (vs++[v])=QDa ps vs++[.int .i64 p.kind,v,.string p.text]
 | [],[],_,_,_=>rfl
 | q::ps,u::vs,p,v,h=>by simp only[QDa,List.cons_append];rw[Qld ps vs p v (by simpa using h)]
theorem QDd(file:Int):∀(ds:List Qwa) (vs:List Value) (d:Qwa) (v:Value),vs.length=ds.length→
 QRb file (ds++[d]) (vs++[v])=QRb file ds vs++[.int .i64 d.kind,.string d.label,.string d.name,v,.int .i64 file,.int .i64 d.line,.int .i64 d.col]
 | [],[],_,_,_=>rfl
 | e::ds,u::vs,d,v,h=>by simp only[QRb,List.cons_append];rw[QDd file ds vs d v (by simpa using h)]
def Qfa(w:World)(base:Nat)(v:Value)(cs:List QJb):Prop:=w.ownsRow base 72 2 v cs.length (QCb cs)
def Qha(w:World)(base:Nat)(v:Value)(ps:List QRa):Prop:=
 ∃vs:List Value,vs.length=ps.length∧w.ownsRow base 75 3 v ps.length (QDa ps vs)∧∀k (h:k<ps.length) (h2:k<vs.length),Qfa w base vs[k] ps[k].cells
def Q7a(w:World)(base:Nat)(file:Int)(v:Value)(D:List Qwa):Prop:=
 ∃vs:List Value,vs.length=D.length∧w.ownsRow base 34 7 v D.length (QRb file D vs)∧∀k (h:k<D.length) (h2:k<vs.length),Qha w base vs[k] D[k].parts
section
variable{w w':World}{base:Nat}{file:Int}{v:Value}{cs:List QJb}{ps:List QRa}{D:List Qwa}
theorem Q7a.slice(h:Q7a w base file v D):∃a c,v = .slice a D.length c:=by obtain⟨_,_,h,_⟩:=h;exact Qia h
theorem Qha.slice(h:Qha w base v ps):∃a c,v = .slice a ps.length c:=by obtain⟨_,_,h,_⟩:=h;exact Qia h
theorem Qfa.slice(h:Qfa w base v cs):∃a c,v = .slice a cs.length c:=Qia h
theorem Qfa.none(w:World)(base:Nat):Qfa w base (.slice none 0 0) []:=⟨rfl,.inl ⟨rfl,rfl⟩⟩
theorem Qha.none(w:World)(base:Nat):Qha w base (.slice none 0 0) []:=⟨[],rfl,⟨rfl,.inl ⟨rfl,rfl⟩⟩,fun _ h=>by cases h⟩
theorem Q7a.none(w:World)(base:Nat)(file:Int):Q7a w base file (.slice none 0 0) []:=⟨[],rfl,⟨rfl,.inl ⟨rfl,rfl⟩⟩,fun _ h=>by cases h⟩
def QLa(w:World)(S:Nat→Prop):Prop:=∀b,b<w.heap.size→S b→∃xs t,Qca w b xs t∧t≠72∧t≠75∧t≠34
theorem Qpa{e:TypeId}{size n b:Nat}{xs:List Value}(h:w.ownsRow base e size v n xs)(hb:v.ownBlock=some b):b<w.heap.size∧base≤b∧∃cur,Qca w b cur e:=by
 rcases h.2 with⟨rfl,_⟩|⟨g,cap,cur,rfl,hg,hh,_⟩
 ·simp[Value.ownBlock]at hb
 ·obtain rfl:g=b:=Option.some.inj hb
  exact⟨lt_of_block hh,hg,_,hh⟩
theorem Qvd{S:Nat→Prop}{e:TypeId}{size n:Nat}{xs:List Value}(h:w.ownsRow base e size v n xs)(ha:QLa w S)(he:e=72∨e=75∨e=34):∀g,v.ownBlock=some g→¬S g:=by
 intro g hg hS
 obtain⟨h1,_,cur,h2⟩:=Qpa h hg
 obtain⟨xs,t,h3,n1,n2,n3⟩:=ha g h1 hS
 have h4:w.heap[g]? = some (.cells xs t (0,0)):=h3
 have h5:w.heap[g]? = some (.cells cur e (0,0)):=h2
 rw[h4]at h5
 cases h5
 rcases he with rfl|rfl|rfl
 ·exact n1 rfl
 ·exact n2 rfl
 ·exact n3 rfl
theorem Qfa.keeps{S:Nat→Prop}(h:Qfa w base v cs)(k:Qaa S w w')(ha:QLa w S):Qfa w' base v cs:=Qba h k (Qvd h ha (.inl rfl))
theorem Qha.keeps{S:Nat→Prop}(h:Qha w base v ps)(k:Qaa S w w')(ha:QLa w S):Qha w' base v ps:=by
 obtain⟨vs,h1,h2,h3⟩:=h
 exact⟨vs,h1,Qba h2 k (Qvd h2 ha (.inr (.inl rfl))),fun j h h'=>(h3 j h h').keeps k ha⟩
theorem Q7a.keeps{S:Nat→Prop}(h:Q7a w base file v D)(k:Qaa S w w')(ha:QLa w S):Q7a w' base file v D:=by
 obtain⟨vs,h1,h2,h3⟩:=h
 exact⟨vs,h1,Qba h2 k (Qvd h2 ha (.inr (.inr rfl))),fun j h h'=>(h3 j h h').keeps k ha⟩
theorem QLa.one{b:Nat}{xs:Array Value}{t:TypeId}(h:Qca w b xs t)(h1:t≠72)(h2:t≠75)(h3:t≠34):QLa w (· = b):=fun _ _ e=>by cases e;exact⟨_,_,h,h1,h2,h3⟩
theorem QLa.nil(w:World):QLa w (fun _=>False):=fun _ _ e=>e.elim
theorem Qfa.lower{b2:Nat}(h:Qfa w base v cs)(hb:b2≤base):Qfa w b2 v cs:=QMc h hb
theorem Qha.lower{b2:Nat}(h:Qha w base v ps)(hb:b2≤base):Qha w b2 v ps:=by
 obtain⟨vs,h1,h2,h3⟩:=h
 exact⟨vs,h1,QMc h2 hb,fun j h h'=>(h3 j h h').lower hb⟩
end
def Qjf(B:Nat)(w:World)(v:Value)(file:Int)(L:List Tok):Prop:=
 ∃g cap,v = .slice (some ⟨g,0,none⟩) L.length cap∧g<B∧∀(i:Nat) (h:i<L.length) (k:Nat) (u:Value),(QHb file L[i])[k]? = some u→w.cell? ⟨g,6*i+k,none⟩=some u
theorem Qjf.keeps{B:Nat}{w w':World}{v:Value}{file:Int}{L:List Tok}{S:Nat→Prop}(h:Qjf B w v file L)(k:Qaa S w w')(hs:∀b,S b→B≤b):Qjf B w' v file L:=by
 obtain⟨g,cap,e,hg,hc⟩:=h
 refine⟨g,cap,e,hg,fun i hi j u hu=>?_⟩
 have c:=hc i hi j u hu
 exact(k.cell (p:=⟨g,6*i+j,none⟩) (World.block_lt_of_cell? w _ c) (fun e=>by have:=hs g e;omega)).trans c
structure LOk(L:List Tok):Prop where
 len:L.length≤6001
 text:∀t∈L,t.text.length≤16000
 last:∃ts t,L=ts++[t]∧t.kind=8
theorem LOk.next{L:List Tok}(h:LOk L){i:Nat}(hi:i<L.length)(hk:(tkN L i).kind≠8):i+1<L.length:=by
 obtain⟨ts,t,rfl,h8⟩:=h.last
 simp only[List.length_append,List.length_cons,List.length_nil]at hi ⊢
 rcases Nat.lt_or_ge i ts.length with c|c
 ·omega
 ·exfalso
  apply hk
  obtain rfl:i=ts.length:=by omega
  unfold tkN
  rw[List.getD_eq_getElem?_getD,List.getElem?_append_right (Nat.le_refl _)]
  simpa using h8
structure QUa(w:World)(r base:Nat)(file:Int)(L:List Tok)(lv ov:Value)(i:Nat)(D:List Qwa):Prop where
 holds:Qca w r #[lv,.int .i64 i,ov,.pointer none] 63
 toks:Qjf base w lv file L
 defs:Q7a w base file ov D
 low:base≤r
 size:base≤w.heap.size
 lt:i<L.length
 ok:LOk L
 cnt:D.length≤i
def QMl(w:World)(r base:Nat)(file:Int)(lv x ov fp:Value)(D:List Qwa):Prop:=
 Qca w r #[lv,x,ov,fp] 63∧Q7a w base file ov D∧base≤r∧base≤w.heap.size
theorem QUa.raw{w:World}{r base:Nat}{file:Int}{L:List Tok}{lv ov:Value}{i:Nat}{D:List Qwa}(h:QUa w r base file L lv ov i D):QMl w r base file lv (.int .i64 i) ov (.pointer none) D:=⟨h.holds,h.defs,h.low,h.size⟩
def Qob(w:World)(r:Nat)(file:Int)(L:List Tok)(lv ov:Value)(k:Nat)(c:Int):Prop:=
 ∃x f,Qca w r #[lv,x,ov,.pointer (some ⟨f,0,none⟩)] 63∧Qca w f #[.int .i64 file,.int .i64 (tkN L k).line,.int .i64 (tkN L k).col,.int .i64 c] 68
theorem Qcd{w:World}{a b:Nat}{xs ys:Array Value}{s t:TypeId}(h:Qca w a xs s)(k:Qca w b ys t)(Hn:s≠t):a≠b:=by
 rintro rfl
 have h1:w.heap[a]? = some (.cells xs s (0,0)):=h
 have h2:w.heap[a]? = some (.cells ys t (0,0)):=k
 rw[h1]at h2
 cases h2
 exact Hn rfl
theorem Qob.keeps{w w':World}{r:Nat}{file:Int}{L:List Tok}{lv ov:Value}{k:Nat}{c:Int}{S:Nat→Prop}(h:Qob w r file L lv ov k c)(K:Qaa S w w')(hs:∀b,S b→∃xs t,Qca w b xs t∧t≠63∧t≠68):Qob w' r file L lv ov k c:=by
 obtain⟨x,f,h1,h2⟩:=h
 refine⟨x,f,h1.keeps K (fun e=>?_),h2.keeps K (fun e=>?_)⟩
 ·obtain⟨xs,t,h3,n1,_⟩:=hs r e
  exact Qcd h3 h1 n1 rfl
 ·obtain⟨xs,t,h3,_,n2⟩:=hs f e
  exact Qcd h3 h2 n2 rfl
theorem Qob.one{w w':World}{r B:Nat}{file:Int}{L:List Tok}{lv ov:Value}{k:Nat}{c:Int}{xs:Array Value}{t:TypeId}(h:Qob w r file L lv ov k c)(hB:Qca w B xs t)(n1:t≠63)(n2:t≠68)(K:Qaa (· = B) w w'):Qob w' r file L lv ov k c:=
 h.keeps K (fun b e=>by cases e;exact⟨xs,t,hB,n1,n2⟩)
theorem Qob.new{w w':World}{r:Nat}{file:Int}{L:List Tok}{lv ov:Value}{k:Nat}{c:Int}(h:Qob w r file L lv ov k c)(K:Qaa (fun _=>False) w w'):Qob w' r file L lv ov k c:=h.keeps K (fun _ e=>e.elim)
theorem Qbl{w:World}{base:Nat}{v:Value}{acc:List UInt8}(h:w.ownsRow base 5 1 v acc.length (Lib.byteCells acc)) :
 (convert 76 9 v).run Tryz.prog w = .ok (.string ⟨acc.toArray⟩) w:=by
 rcases h.2 with⟨rfl,h0⟩|⟨g,cap,cur,rfl,hb,hh,hcap,hr⟩
 ·have:acc=[]:=List.eq_nil_of_length_eq_zero h0
  subst this
  exact run_convert_bytes_nil w _ _ Tryz.underlying76 Tryz.underlying5 0 0 _ Tryz.underlying9
 ·refine run_convert_bytes_back w _ _ _ ⟨g,0,none⟩ cap acc Tryz.underlying76 Tryz.underlying5 Tryz.underlying9 ?_
  intro j hj
  exact h.cells (g:=g) rfl j _ (by simp[Lib.byteCells,hj])
theorem Qye{w:World}{base:Nat}{e:TypeId}{v:Value}{n:Nat}{xs:List Value}(h:w.ownsRow base e 1 v n xs):∃a cap,v = .slice a n cap:=by
 rcases h.2 with⟨rfl,rfl⟩|⟨g,cap,cur,rfl,_⟩
 ·exact⟨none,0,rfl⟩
 ·exact⟨_,cap,rfl⟩
def Qqk(Q:List UInt8 × Nat × Int)(w:World)(e:Ending)(w':World):Prop:=
 e = .returned (.tuple #[.string ⟨Q.1.toArray⟩,.int .i64 Q.2.1,.int .i64 Q.2.2])∧Below w.heap.size w w'
def QUr(s:ByteArray)(a:Nat)(Q:List UInt8 × Nat × Int)(w:World)(f:Nat)(x y:Value)(wr:World):Prop:=
 ∃(k:Nat) (acc:List UInt8),a+1≤k∧k≤s.size∧s.size≤k+f∧acc.length<k∧y = .int .i64 k∧qtA f (s.data.toList.drop k) acc (k-a)=Q∧
  wr.ownsRow w.heap.size 5 1 x acc.length (Lib.byteCells acc)∧Below w.heap.size w wr
theorem Qcp(s:ByteArray)(k:Nat)(h:k<s.size):k+1+(esc (s.data.toList.drop (k+1))).2.1≤s.size:=by
 have:=(Q8l (s.data.toList.drop (k+1))).2.2.2.1
 simp at this;omega
theorem Qyo(s:ByteArray)(a:Nat)(w:World)(hs:s.size≤140737488355328)(ha:a<s.size) :
 Calls Tryz.prog 103 #[.string s,.int .i64 a] w (Qqk (qtA (s.size-a) (s.data.toList.drop (a+1)) [] 1) w):=by
 generalize hQ:qtA (s.size-a) (s.data.toList.drop (a+1)) [] 1=Q
 have HQ:=hid hQ;clear hQ
 go_enter Tryz.func103,Tryz.ntmps103
 go_wp2_with fail
 go_loopg [7,8] (s.size-a) (fun f x y wr=>QUr s a Q w f x y wr)
 case atStart=>exact⟨a+1,[],by omega,by omega,by omega,by simp,rfl,by rw[show a+1-a=1 from by omega];exact HQ.out,World.ownsRow_nil _ _ _ _,Below.refl _ _⟩
 case round=>
  obtain⟨k,acc,Ht,hk,hf,sJ,rfl,hB,Hi,gI⟩:=hrel
  have HB:=hid hB;clear hB
  obtain⟨ao,cap,rfl⟩:=Qye Hi
  by_cases Hh:k<s.size
  ·obtain⟨f,rfl⟩:∃f',gk=f'+1:=⟨gk-1,by omega⟩
   have Kt:Hid (Q=if s[k].toNat=34 then(acc,k-a+1,0)else if s[k].toNat=10 then([],0,21)else if s[k].toNat=92 then
    (if (esc (s.data.toList.drop (k+1))).2.2≠0 then([],0,(esc (s.data.toList.drop (k+1))).2.2)else qtA f ((s.data.toList.drop (k+1)).drop (esc (s.data.toList.drop (k+1))).2.1) (acc++[(esc (s.data.toList.drop (k+1))).1.toNat.toUInt8]) (k-a+(esc (s.data.toList.drop (k+1))).2.1+1))
    else qtA f (s.data.toList.drop (k+1)) (acc++[s[k]]) (k-a+1)):=by
    show _=_
    rw[←HB.out,QBa s k Hh];rfl
   have GM:=gI.size
   by_cases K9:s[k].toNat=34
   ·have fh:((s[k].toNat:Int) == 34)=true:=by simp[K9]
    have Kh:((s[k].toNat:Int) != 10)=true:=by simp[K9]
    have hR:=hid (show Q=(acc,k-a+1,0)from by rw[Kt.out,if_pos K9])
    have JD:=Qbl Hi
    clear K9
    go_wp2_with fail
    go_ret3
    exact⟨by rw[hR.out];simp;omega,gI⟩
   ·have fh:((s[k].toNat:Int) == 34)=false:=by simp;omega
    by_cases Gf:s[k].toNat=10
    ·have Kh:((s[k].toNat:Int) != 10)=false:=by simp[Gf]
     have hR:=hid (show Q=([],0,21)from by rw[Kt.out,if_neg K9,if_pos Gf])
     clear Gf K9
     go_wp2_with fail
     go_ret3
     exact⟨by rw[hR.out];rfl,gI⟩
    ·have Kh:((s[k].toNat:Int) != 10)=true:=by simp;omega
     by_cases h92:s[k].toNat=92
     ·have fq:((s[k].toNat:Int) != 92)=false:=by simp[h92]
      have oB:=Q8l (s.data.toList.drop (k+1))
      have vq:=Qcp s k Hh
      have Kk:=fun wx=>Qwl s k wx hs Hh
      have hR:=hid (show Q=(if (esc (s.data.toList.drop (k+1))).2.2≠0 then([],0,(esc (s.data.toList.drop (k+1))).2.2)else qtA f ((s.data.toList.drop (k+1)).drop (esc (s.data.toList.drop (k+1))).2.1) (acc++[(esc (s.data.toList.drop (k+1))).1.toNat.toUInt8]) (k-a+(esc (s.data.toList.drop (k+1))).2.1+1))from by rw[Kt.out,if_neg K9,if_neg Gf,if_pos h92])
      clear Kt h92 Gf K9
      generalize esc (s.data.toList.drop (k+1))=E at oB Kk hR vq
      obtain⟨ev,en,ee⟩:=E
      obtain⟨g1,g2,g3,g4,g5,g6,g7⟩:=oB
      simp only[List.length_drop]at g1 g2 g3 g4 g5 g6 g7 Kk hR vq
      unfold QJr at Kk
      simp only at Kk
      clear g4
      by_cases hz:ee=0
      ·subst hz
       have g5':=hid (g5 rfl);clear g5
       simp only[if_true]at Kk
       have HS:=hid Kk;clear Kk
       obtain⟨i0,hi,GE,GF,GA⟩:=info_parts QQh
       go_wp2_with (first | (go_at_call 129;refine(HS.out _).mono ?_;rintro e w1 ⟨rfl,nd,rfl⟩) | (at_builtin;refine wpList_append_own _ rfl _ _ 76 rfl w.heap.size 5 i0 (.int .u8 0) 1 1 Tryz.underlying76 hi GE GF GA rfl (by decide) _ _ _ rfl (by exact World.ownsRow.alloc Hi _) ⟨wr.heap.size,0,none⟩ 1 1 [.int .u8 ev] rfl rfl ?c1 ?c2 ?c3 ?c4 ?c5 ?_))
       case c1=>exact Q3a _ _ _ _ rfl _ rfl
       case c2=>intro u hu;simp at hu;subst hu;rfl
       case c3=>unfold maxLen;omega
       case c4=>omega
       case c5=>simp;omega
       intro v' w3 Hq Hb _
       have gm:Below w.heap.size w w3:=((below_drewN gI nd).alloc (by simpa using GM) _).grown Hb (by simp;omega) (fun g hg=>by have:=(Hi.lt g hg).1;omega)
       rw[Qte acc ev g1 g2]at Hq
       clear Hb
       obtain⟨ao',cap',rfl⟩:=Qye Hq
       go_wp2_with fail
       go_roundg f
       case measure=>omega
       case rel=>exact⟨k+(en+1),acc++[ev.toNat.toUInt8],by omega,by omega,by omega,by simp;omega,by go_num,by have:=hR.out;rw[if_neg (by simp),List.drop_drop]at this;rw[this,show k+1+en=k+(en+1)from by omega,show k-a+en+1=k+(en+1)-a from by omega],by simpa using Hq,gm⟩
      ·have hz':(ee != 0)=true:=by simpa using hz
       have HR:=hid (show Q=([],0,ee)from by rw[hR.out,if_pos hz])
       rw[if_neg hz]at Kk
       have HS:=hid Kk;clear Kk
       clear hz g5
       go_wp2_with (first | (go_at_call 129;refine(HS.out _).mono ?_;rintro e w1 ⟨rfl,nd,rfl⟩))
       go_ret3
       exact⟨by rw[HR.out];rfl,below_drewN gI _⟩
     ·have fq:((s[k].toNat:Int) != 92)=true:=by simp;omega
      have hR:=hid (show Q=qtA f (s.data.toList.drop (k+1)) (acc++[s[k]]) (k-a+1)from by rw[Kt.out,if_neg K9,if_neg Gf,if_neg h92])
      clear Kt h92 Gf K9
      obtain⟨i0,hi,GE,GF,GA⟩:=info_parts QQh
      go_wp2_with (at_builtin;refine wpList_append_own _ rfl _ _ 76 rfl w.heap.size 5 i0 (.int .u8 0) 1 1 Tryz.underlying76 hi GE GF GA rfl (by decide) _ _ _ rfl (by exact World.ownsRow.alloc Hi _) ⟨wr.heap.size,0,none⟩ 1 1 [.int .u8 s[k].toNat] rfl rfl ?c1 ?c2 ?c3 ?c4 ?c5 ?_)
      case c1=>exact Q3a _ _ _ _ rfl _ rfl
      case c2=>intro u hu;simp at hu;subst hu;rfl
      case c3=>unfold maxLen;omega
      case c4=>omega
      case c5=>simp;omega
      intro v' w3 Hq Hb _
      have gm:Below w.heap.size w w3:=(gI.alloc GM _).grown Hb (by simp;omega) (fun g hg=>by have:=(Hi.lt g hg).1;omega)
      have gK:w3.ownsRow w.heap.size 5 1 v' (acc.length+1) (Lib.byteCells (acc++[s[k]])):=by simpa[Lib.byteCells]using Hq
      clear Hb Hq
      obtain⟨ao',cap',rfl⟩:=Qye gK
      go_wp2_with fail
      go_roundg f
      case measure=>omega
      case rel=>exact⟨k+1,acc++[s[k]],by omega,by omega,by omega,by simp;omega,by go_num,by rw[hR.out,show k-a+1=k+1-a from by omega],by simpa using gK,gm⟩
  ·have hR:=hid (show Q=([],0,21)from by rw[←HB.out,Qdb s k (by omega)];cases gk <;> rfl)
   go_wp2_with fail
   go_ret3
   exact⟨by rw[hR.out];rfl,gI⟩
def QTf(big:Bool)(n:Int):Int:=if big=true then 4294967296 else n
theorem QOp(s:ByteArray)(h:1<s.size)(h0:((s[0]'(by omega)).toNat:Int)=48):Lib.hasPrefix s.data.toList [48,120]=decide ((s[1].toNat:Int)=120):=by
 have e0:=QBa s 0 (by omega)
 have e1:=QBa s 1 h
 rw[List.drop_zero]at e0
 rw[e0,e1]
 have h0':s[0]=48:=by apply UInt8.toNat_inj.1;have:s[0].toNat=48:=by omega
                      rw[this];rfl
 rw[h0',Bool.eq_iff_iff]
 simp[Lib.hasPrefix]
 constructor
 ·intro h;rw[←h];rfl
 ·intro h;symm;apply UInt8.toNat_inj.1;have:s[1].toNat=120:=by omega
  rw[this];rfl
theorem Qsh(s:ByteArray)(h:¬1<s.size∨∃h:0<s.size,((s[0]'h).toNat:Int)≠48):Lib.hasPrefix s.data.toList [48,120]=false:=by
 rw[Bool.eq_false_iff]
 intro hp
 have oV:2≤s.size:=by simpa using Lib.hasPrefix_le hp
 rcases h with h|⟨h1,h⟩
 ·omega
 ·apply h
  have e0:=QBa s 0 (by omega)
  rw[List.drop_zero]at e0
  rw[e0]at hp
  simp[Lib.hasPrefix]at hp
  rw[←hp.1];rfl
theorem QKn(w:World)(a b:Nat):∃n,(w.drewN a).drewN b=w.drewN n:=⟨a+b,by rw[World.drewN_drewN]⟩
theorem Qxl(s:ByteArray)(w:World)(hs:s.size≤maxLen) :
 Calls Tryz.prog 102 #[.string s] w fun e w'=>e = .returned (.tuple #[.int .i64 (QMe s.data.toList).1,.int .i64 (QMe s.data.toList).2])∧∃n,w'=w.drewN n:=by
 unfold maxLen at hs
 go_enter Tryz.func102,Tryz.ntmps102
 have Hm:=Qxg s.data.toList
 have Kl:=QKf s.data.toList
 generalize hnp:Qkb s.data.toList=np at Hm Kl
 have aD:=hid hnp;clear hnp
 obtain⟨base,dl⟩:=np
 obtain⟨Hf,Ho⟩:=Hm
 simp only at Hf Ho Kl
 have Hx:(∃h1:1<s.size,((s[0].toNat:Int) == 48)=true∧((s[1].toNat:Int) == 120)=true∧Hid (dl=s.data.toList.drop 2)∧Hid (base=16))∨
  (∃h1:1<s.size,((s[0].toNat:Int) == 48)=true∧((s[1].toNat:Int) == 120)=false∧Hid (dl=s.data.toList.drop 1)∧Hid (base=8))∨
  (∃h1:1<s.size,((s[0].toNat:Int) == 48)=false∧Hid (dl=s.data.toList)∧Hid (base=10))∨(¬1<s.size∧Hid (dl=s.data.toList)∧Hid (base=10)):=by
  by_cases h1:1<s.size
  ·have hH:=Qnc s (by omega)
   by_cases h48:(s[0].toNat:Int)=48
   ·have hx:=QOp s h1 h48
    by_cases h120:(s[1].toNat:Int)=120
    ·have e:=(QUo (by rw[hx];simpa using h120)).symm.trans aD.out
     obtain⟨e1,e2⟩:=Prod.mk.inj e
     exact .inl ⟨h1,by simpa using h48,by simpa using h120,e2.symm,e1.symm⟩
    ·have e:=(QVo (by rw[hx];simpa using h120) (by simpa using h1) (by rw[hH];exact h48)).symm.trans aD.out
     obtain⟨e1,e2⟩:=Prod.mk.inj e
     exact .inr (.inl ⟨h1,by simpa using h48,by simpa using h120,e2.symm,e1.symm⟩)
   ·have e:=(QNk (Qsh s (.inr ⟨by omega,h48⟩)) (.inr (by rw[hH];exact h48))).symm.trans aD.out
    obtain⟨e1,e2⟩:=Prod.mk.inj e
    exact .inr (.inr (.inl ⟨h1,by simpa using h48,e2.symm,e1.symm⟩))
  ·have e:=(QNk (Qsh s (.inl h1)) (.inl (by simpa using h1))).symm.trans aD.out
   obtain⟨e1,e2⟩:=Prod.mk.inj e
   exact .inr (.inr (.inr ⟨h1,e2.symm,e1.symm⟩))
 rcases Hx with⟨h1,h48,h120,KL,M6⟩|⟨h1,h48,h120,KL,M6⟩|⟨h1,h48,KL,M6⟩|⟨h1,KL,M6⟩
 all_goals
  go_upto_if 18 with fail
  go_cut [4,5] (fun b d wx=>∃dg:ByteArray,b = .int .i64 base∧d = .string dg∧Hid (dg.data.toList=dl)∧∃n,wx=w.drewN n)
 case first=>
  go_wp2_with fail
  go_quiet (fail)
  go_wp2
  go_quiet (fail)
  go_wp2
  go_meet
  case rel=>exact⟨_,by rw[M6.out],rfl,by rw[KL.out];exact QLb s 2,QKn _ _ _⟩
 case first=>
  go_wp2_with fail
  go_quiet (fail)
  go_wp2
  go_meet
  case rel=>exact⟨_,by rw[M6.out],rfl,by rw[KL.out];exact QLb s 1,_,rfl⟩
 case first=>
  go_wp2_with fail
  go_meet
  case rel=>exact⟨_,by rw[M6.out],rfl,by rw[KL.out];rfl,0,rfl⟩
 case first=>
  go_wp2_with fail
  go_meet
  case rel=>exact⟨_,by rw[M6.out],rfl,by rw[KL.out];rfl,0,rfl⟩
 all_goals
  obtain⟨dg,rfl,rfl,cZ,n0,rfl⟩:=hcut
  have hT:=hid (show QMe s.data.toList=if dl=[]then(0,6)else QPl (Q2a base dl 0)from by unfold QMe;rw[aD.out])
  have Ga:dg.size=dl.length:=by rw[←cZ.out];simp
  have ae:dg.size≤9223372036854775807:=by rw[Ga];simp at Kl;omega
  have HL:=hid Ga;clear Ga
  by_cases h0:dg.size=0
  ·obtain rfl:=QEd dg h0
   have hF:=hid (show QMe s.data.toList=(0,6)from by rw[hT.out,if_pos];rw[←cZ.out];rfl)
   clear h0
   go_wp2_with fail
   go_ret2
   exact⟨by rw[hF.out];rfl,_,rfl⟩
  ·have h0:0<dg.size:=by omega
   have Hn:=Qzc dg h0
   have Jr:=Qub dg h0
   have hz:((dg.size:Int) == 0)=false:=by rw[beq_eq_false_iff_ne];omega
   have gN:=hid (show QMe s.data.toList=QPl (Q2a base dg.data.toList 0)from by rw[hT.out,cZ.out,if_neg];intro e;have:=HL.out;subst e;simp only[List.length_nil]at this;omega)
   go_wp2_with fail
   go_loopg [6,7,8] (dg.size) (fun f x y i wr=>∃k:Nat,∃n:Int,∃big:Bool,k≤dg.size∧dg.size≤k+f∧i = .int .i64 k∧y = .bool big∧x = .int .i64 n∧0≤n∧n≤4294967295∧Hid (Q2a base dg.data.toList 0=Q2a base (dg.data.toList.drop k) (QTf big n))∧wr=w.drewN n0)
   case atStart=>exact⟨0,0,false,Nat.zero_le _,by omega,rfl,rfl,rfl,by omega,by omega,rfl,rfl⟩
   case round=>
    obtain⟨k,n,big,hk,hf,rfl,rfl,rfl,Mw,ls,hE,rfl⟩:=hrel
    by_cases Hh:k<dg.size
    ·have Kt:=hid (show Q2a base dg.data.toList 0=if Qwc dg[k].toNat<0∨base≤Qwc dg[k].toNat then none else Q2a base (dg.data.toList.drop (k+1)) (min (QTf big n*base+Qwc dg[k].toNat) 4294967296)from by rw[hE.out,QBa dg k Hh];rfl)
     have Hm:=Qof dg[k].toNat
     have yg:0≤n*base:=Int.mul_nonneg Mw (by omega)
     have tg:n*base≤4294967295*16:=Int.mul_le_mul ls Ho (by omega) (by omega)
     by_cases hg:Qwc dg[k].toNat<0∨base≤Qwc dg[k].toNat
     ·have hF:=hid (show QMe s.data.toList=(0,6)from by rw[gN.out,Kt.out,if_pos hg];rfl)
      have ji:base≤Qkg dg[k].toNat:=by unfold Qkg;split <;> omega
      have JU:Qkg dg[k].toNat≤99:=by unfold Qkg;split <;> omega
      clear hg Hm
      have mx:=fun wx=>QLg dg[k].toNat wx (by omega) (QYb _)
      generalize Qkg dg[k].toNat=dv at ji JU mx
      go_wp2_with (first | (go_at_call 128;refine(mx _).mono ?_;rintro e w' ⟨rfl,rfl⟩))
      go_ret2
      exact⟨by rw[hF.out];rfl,_,rfl⟩
     ·have qr:=hid (show Qkg dg[k].toNat=Qwc dg[k].toNat from by unfold Qkg;rw[if_neg (by omega)])
      have nH:=hid (show Q2a base dg.data.toList 0=Q2a base (dg.data.toList.drop (k+1)) (min (QTf big n*base+Qkg dg[k].toNat) 4294967296)from by rw[Kt.out,if_neg hg,qr.out])
      have fY:Qkg dg[k].toNat<base:=by rw[qr.out];omega
      have sX:0≤Qkg dg[k].toNat:=by rw[qr.out];omega
      have mx:=fun wx=>QLg dg[k].toNat wx (by omega) (QYb _)
      clear hg Hm qr Kt
      have xU:Qkg dg[k].toNat≤15:=by omega
      generalize Qkg dg[k].toNat=dv at nH fY sX mx xU
      have tF:=hid (show 4294967295<n*base+dv→min (QTf big n*base+dv) 4294967296=QTf true 0 from by intro h;unfold QTf;cases big <;> simp <;> omega)
      have ap:=hid (show n*base+dv≤4294967295→min (QTf big n*base+dv) 4294967296=QTf big (n*base+dv)from by intro h;unfold QTf;cases big <;> simp <;> omega)
      by_cases qp:4294967295<n*base+dv
      ·go_wp2_with (first | (go_at_call 128;refine(mx _).mono ?_;rintro e w' ⟨rfl,rfl⟩))
       go_roundg (gk-1)
       case measure=>omega
       case rel=>exact⟨k+1,_,_,by omega,by omega,by go_num,rfl,rfl,by omega,by omega,by show _=_;rw[nH.out,tF.out qp],rfl⟩
      ·go_wp2_with (first | (go_at_call 128;refine(mx _).mono ?_;rintro e w' ⟨rfl,rfl⟩))
       go_roundg (gk-1)
       case measure=>omega
       case rel=>exact⟨k+1,_,_,by omega,by omega,by go_num,rfl,rfl,by omega,by omega,by show _=_;rw[nH.out,ap.out (by omega)],rfl⟩
    ·have Kt:=hid (show Q2a base dg.data.toList 0=some (QTf big n)from by rw[hE.out,Qdb dg k (by omega)];rfl)
     cases big
     ·have hF:=hid (show QMe s.data.toList=(n,0)from by rw[gN.out,Kt.out];unfold QPl QTf;simp;omega)
      go_wp2_with fail
      go_ret2
      exact⟨by rw[hF.out];rfl,_,rfl⟩
     ·have hF:=hid (show QMe s.data.toList=(0,2)from by rw[gN.out,Kt.out];unfold QPl QTf;simp)
      go_wp2_with fail
      go_ret2
      exact⟨by rw[hF.out];rfl,_,rfl⟩
end Go.Proofs.YtofhcgbihonckaaGreat
