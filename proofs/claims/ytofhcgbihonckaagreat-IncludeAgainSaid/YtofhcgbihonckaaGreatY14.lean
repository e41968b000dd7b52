/- Contracts of number and quoted of token. | The contract of next of token. | The contract of next of token: references and signs. | The contract of next of token: words, and all of it. | The contract of Read of token. | A row of tokens in memory, read. | Definitions in memory, as a call makes them: rows of definitions, of parts, of cells. | Contracts of the reference of token: text. | Contracts of the reference of token: number. -/
import Derived.Test.YtofhcgbihonckaaGreatY5
import Derived.Deep.DeepCutAuto
import Derived.Deep.CutBlock
import Derived.Test.YtofhcgbihonckaaGreatY7
import Derived.Test.YtofhcgbihonckaaGreatY6
import Derived.Test.YtofhcgbihonckaaGreatY13
import Derived.Test.YtofhcgbihonckaaGreatY12
import Derived.Laws.IdiomStrings
import Derived.Deep.LoopGhost
set_option linter.all false
set_option maxHeartbeats 8000000
namespace Go.Proofs.YtofhcgbihonckaaGreat
open Go.Lib (hid)
open Go.RowKit
theorem QTn{l:List UInt8}(h:Lib.hasPrefix l [48,120]=true):Qfb l=(16,l.drop 2):=by unfold Qfb;simp[h]
theorem QUn{l:List UInt8}(h:Lib.hasPrefix l [48,120]=false)(h1:1<l.length)(h2:((l.headD 0).toNat:Int)=48):Qfb l=(8,l.drop 1):=by
 have h3:l.headD 0=48:=by
  apply UInt8.toNat_inj.1
  have:(l.headD 0).toNat=48:=by omega
  rw[this];rfl
 unfold Qfb
 rw[if_neg (by simp[h]),if_pos ⟨h1,h3⟩]
theorem QPj{l:List UInt8}(h:Lib.hasPrefix l [48,120]=false)(h1:¬1<l.length∨((l.headD 0).toNat:Int)≠48):Qfb l=(10,l):=by
 unfold Qfb;rw[if_neg (by simp[h]),if_neg ?_];rintro ⟨a,b⟩;rcases h1 with h1|h1;exact h1 a;apply h1;rw[b];rfl
theorem QDi(s:ByteArray)(w:World)(hs:s.size≤maxLen) :
 Calls Tryz.prog 89 #[.string s] w fun e w'=>e = .returned (.tuple #[.int .i64 (Q5d s.data.toList).1,.int .i64 (Q5d s.data.toList).2])∧∃n,w'=w.drewN n:=by
 unfold maxLen at hs
 go_enter Tryz.func89,Tryz.ntmps89
 go_upto_block 0 with fail
 have Hm:=QZf s.data.toList
 have kV:=Qdf s.data.toList
 generalize hnp:Qfb s.data.toList=np at Hm kV
 have JJ:=hid hnp;clear hnp
 obtain⟨base,dl⟩:=np
 obtain⟨He,Hn⟩:=Hm
 simp only at He Hn kV
 go_cut [4,5] (fun b d wx=>∃dg:ByteArray,b = .int .i64 base∧d = .string dg∧Hid (dg.data.toList=dl)∧∃n,wx=w.drewN n)
 case first=>
  by_cases hp:Lib.hasPrefix s.data.toList [48,120]=true
  ·have bJ:=Lib.hasPrefix_le hp
   have hle2:2≤s.size:=by simpa using bJ
   go_wp2_with (first | (go_at_call 80;refine(Tryz.strings_HasPrefix _ _ _).mono ?_;rintro e w' ⟨rfl,rfl⟩))
   go_quiet (fail)
   go_wp2
   go_meet
   case rel=>
    have e:=(QTn hp).symm.trans JJ.out
    obtain⟨rfl,rfl⟩:=Prod.mk.inj e
    exact⟨_,rfl,rfl,QAb s 2,_,rfl⟩
  ·have hp:Lib.hasPrefix s.data.toList [48,120]=false:=by simpa using hp
   by_cases h1:1<s.size
   ·have hH:=hid (Q9b s (by omega))
    by_cases h48:(s[0].toNat:Int)=48
    ·have pf:((s[0].toNat:Int) == 48)=true:=by simpa using h48
     have nU:=hid h48;clear h48
     go_wp2_with (first | (go_at_call 80;refine(Tryz.strings_HasPrefix _ _ _).mono ?_;rintro e w' ⟨rfl,rfl⟩))
     go_quiet (fail)
     go_wp2
     go_meet
     case rel=>
      have e:=(QUn hp (by simpa using h1) (by rw[hH.out];exact nU.out)).symm.trans JJ.out
      obtain⟨rfl,rfl⟩:=Prod.mk.inj e
      exact⟨_,rfl,rfl,QAb s 1,_,rfl⟩
    ·have pf:((s[0].toNat:Int) == 48)=false:=by simpa using h48
     have nU:=hid h48;clear h48
     go_wp2_with (first | (go_at_call 80;refine(Tryz.strings_HasPrefix _ _ _).mono ?_;rintro e w' ⟨rfl,rfl⟩))
     go_meet
     case rel=>
      have e:=(QPj hp (.inr (by rw[hH.out];exact nU.out))).symm.trans JJ.out
      obtain⟨rfl,rfl⟩:=Prod.mk.inj e
      exact⟨_,rfl,rfl,rfl,0,rfl⟩
   ·go_wp2_with (first | (go_at_call 80;refine(Tryz.strings_HasPrefix _ _ _).mono ?_;rintro e w' ⟨rfl,rfl⟩))
    go_meet
    case rel=>
     have e:=(QPj hp (.inl (by simpa using h1))).symm.trans JJ.out
     obtain⟨rfl,rfl⟩:=Prod.mk.inj e
     exact⟨_,rfl,rfl,rfl,0,rfl⟩
 case rest=>
  obtain⟨dg,rfl,rfl,bC,n0,rfl⟩:=hcut
  have hT:=hid (show Q5d s.data.toList=if dl=[]then(0,6)else QTk (QYa base dl 0)from by unfold Q5d;rw[JJ.out])
  have Ga:dg.size=dl.length:=by rw[←bC.out];simp
  have uf:dg.size≤9223372036854775807:=by rw[Ga];simp at kV;omega
  have HL:=hid Ga;clear Ga
  by_cases h0:dg.size=0
  ·obtain rfl:=QMd dg h0
   have hF:=hid (show Q5d s.data.toList=(0,6)from by rw[hT.out,if_pos];rw[←bC.out];rfl)
   clear h0
   go_wp2_with fail
   go_ret2
   exact⟨by rw[hF.out];rfl,_,rfl⟩
  ·have h0:0<dg.size:=by omega
   have Hq:=QIc dg h0
   have Je:=Qvb dg h0
   have gX:=hid (show Q5d s.data.toList=QTk (QYa base dg.data.toList 0)from by rw[hT.out,bC.out,if_neg];intro e;have:=HL.out;subst e;simp only[List.length_nil]at this;omega)
   go_wp2_with fail
   go_loop [6,30] (fun x i=>∃k:Nat,∃n:Int,k≤dg.size∧i = .int .i64 k∧x = .int .i64 n∧0≤n∧n≤4294967296∧Hid (QYa base dg.data.toList 0=QYa base (dg.data.toList.drop k) n)) (fun _ i=>dg.size-(intOf i).toNat)
   case atStart=>exact⟨0,0,Nat.zero_le _,rfl,rfl,by omega,by omega,rfl⟩
   case round=>
    obtain⟨k,n,hk,rfl,rfl,MN,eB,hE⟩:=hrel
    by_cases Hj:k<dg.size
    ·have k9:=hid (show QYa base dg.data.toList 0=if Qjc dg[k].toNat<0∨base≤Qjc dg[k].toNat then none else QYa base (dg.data.toList.drop (k+1)) (min (n*base+Qjc dg[k].toNat) 4294967296)from by rw[hE.out,Qxa dg k Hj];rfl)
     have Hm:=QVe dg[k].toNat
     have uu:0≤n*base:=Int.mul_nonneg MN (by omega)
     have qa:n*base≤4294967296*16:=Int.mul_le_mul eB Hn (by omega) (by omega)
     by_cases hh:Qjc dg[k].toNat<0
     ·have hF:=hid (show Q5d s.data.toList=(0,6)from by rw[gX.out,k9.out,if_pos (.inl hh)];rfl)
      go_wp2_with (first | (go_at_call 119;refine(Qcd _ _ (by omega) (QLb _)).mono ?_;rintro e w' ⟨rfl,rfl⟩))
      go_ret2
      exact⟨by rw[hF.out];rfl,_,rfl⟩
     ·have hh:0≤Qjc dg[k].toNat:=by omega
      by_cases hg:base≤Qjc dg[k].toNat
      ·have hF:=hid (show Q5d s.data.toList=(0,6)from by rw[gX.out,k9.out,if_pos (.inr hg)];rfl)
       go_wp2_with (first | (go_at_call 119;refine(Qcd _ _ (by omega) (QLb _)).mono ?_;rintro e w' ⟨rfl,rfl⟩))
       go_ret2
       exact⟨by rw[hF.out];rfl,_,rfl⟩
      ·have hg:Qjc dg[k].toNat<base:=by omega
       have iD:=hid (show QYa base dg.data.toList 0=QYa base (dg.data.toList.drop (k+1)) (min (n*base+Qjc dg[k].toNat) 4294967296)from by rw[k9.out,if_neg (by omega)])
       go_wp2_with (first | (go_at_call 119;refine(Qcd _ _ (by omega) (QLb _)).mono ?_;rintro e w' ⟨rfl,rfl⟩))
       go_round
       case rel=>exact⟨k+1,_,by omega,by go_num,rfl,by omega,by omega,iD⟩
       case measure=>simp[intOf];omega
    ·have k9:=hid (show QYa base dg.data.toList 0=some n from by rw[hE.out,Q9a dg k (by omega)];rfl)
     by_cases hg:4294967295<n
     ·have hF:=hid (show Q5d s.data.toList=(0,2)from by rw[gX.out,k9.out];unfold QTk;simp only;rw[if_pos (by omega)])
      go_wp2_with fail
      go_ret2
      exact⟨by rw[hF.out];rfl,_,rfl⟩
     ·have hF:=hid (show Q5d s.data.toList=(n,0)from by rw[gX.out,k9.out];unfold QTk;simp only;rw[if_neg (by omega)])
      go_wp2_with fail
      go_ret2
      exact⟨by rw[hF.out];rfl,_,rfl⟩
theorem Qfp(v:Int)(h0:0≤v)(h1:v≤255):((v.toNat.toUInt8).toNat:Int)=v:=by simp[Nat.toUInt8];omega
theorem Q1d(acc:List UInt8)(v:Int)(h0:0≤v)(h1:v≤255):Lib.byteCells acc++[.int .u8 v]=Lib.byteCells (acc++[v.toNat.toUInt8]):=by
 unfold Lib.byteCells;rw[List.map_append,List.map_singleton,Qfp v h0 h1]
theorem Qbl(l:List UInt8):0≤(esc l).1∧(esc l).1≤255∧(esc l).2.1≤3∧(esc l).2.1≤l.length∧((esc l).2.2=0→1≤(esc l).2.1)∧(esc l).2.2≤21∧0≤(esc l).2.2:=by
 cases l with
 | nil=>simp[esc]
 | cons c r=>
  simp only[esc]
  repeat' (split;· simp)
  cases r with
  | nil=>simp[hx2]
  | cons a r=>
   simp only[hx2]
   repeat' (split;· simp)
   cases r with
   | nil=>simp[hx2]
   | cons b r=>
    have h1:=QVe a.toNat
    have h2:=QVe b.toNat
    simp only[hx2]
    repeat' (split;· simp)
    simp;omega
theorem QEi(s:ByteArray)(w:World)(hs:s.size≤140737488355328)(h1:0<s.size) :
 Calls Tryz.prog 90 #[.string s] w fun e w'=>e = .returned (.tuple #[.string ⟨(qtA s.data.toList.length (s.data.toList.drop 1) [] 1).1.toArray⟩,.int .i64 (qtA s.data.toList.length (s.data.toList.drop 1) [] 1).2.1,.int .i64 (qtA s.data.toList.length (s.data.toList.drop 1) [] 1).2.2])∧Below w.heap.size w w':=by
 generalize hF:qtA s.data.toList.length (s.data.toList.drop 1) [] 1=R
 have HF:=hid hF;clear hF
 go_enter Tryz.func90,Tryz.ntmps90
 go_wp2_with fail
 go_loopw [6] (fun i wr=>∃(k f:Nat) (acc:List UInt8),1≤k∧k≤s.size∧s.size≤k+f∧acc.length<k∧i = .int .i64 k∧Hid (qtA f (s.data.toList.drop k) acc k=R)∧Lib.IsBuilder 154 5 w.heap.size w.heap.size (Lib.byteCells acc) wr∧Below w.heap.size w wr) (fun i _=>s.size-(intOf i).toNat)
 case atStart=>exact⟨1,s.data.toList.length,[],by omega,by omega,by simp,by simp,rfl,HF,Lib.fresh_isBuilder _ _ w,(Below.refl _ _).alloc (Nat.le_refl _) _⟩
 case round=>
  obtain⟨k,f,acc,Ht,hk,hf,pE,rfl,hE,hB,gq⟩:=hrel
  by_cases Hj:k<s.size
  ·obtain⟨f,rfl⟩:∃f',f=f'+1:=⟨f-1,by omega⟩
   have k9:Hid (R=if s[k].toNat=34 then(acc,k+1,0)else if s[k].toNat=10 then([],0,21)else if s[k].toNat=92 then
    (if (esc (s.data.toList.drop (k+1))).2.2≠0 then([],0,(esc (s.data.toList.drop (k+1))).2.2)else qtA f ((s.data.toList.drop (k+1)).drop (esc (s.data.toList.drop (k+1))).2.1) (acc++[(esc (s.data.toList.drop (k+1))).1.toNat.toUInt8]) (k+(esc (s.data.toList.drop (k+1))).2.1+1))
    else qtA f (s.data.toList.drop (k+1)) (acc++[s[k]]) (k+1)):=by
    show _=_
    rw[←hE.out,Qxa s k Hj];rfl
   have kc:=gq.size
   have kh:(Lib.byteCells acc).length+1≤140737488355328:=by unfold Lib.byteCells;simp;omega
   by_cases h34:s[k].toNat=34
   ·have dD:((s[k].toNat:Int) == 34)=true:=by simp[h34]
    have hR:=hid (show R=(acc,k+1,0)from by rw[k9.out,if_pos h34])
    clear h34
    go_wp2_with (first | (go_at_call 120;refine(Tryz.Builder_String_any _ _ acc _ hB kc).mono ?_;rintro e w1 ⟨rfl,He⟩))
    go_ret3
    exact⟨by rw[hR.out];simp,gq.trans He⟩
   ·have dD:((s[k].toNat:Int) == 34)=false:=by simp;omega
    by_cases gY:s[k].toNat=10
    ·have kO:((s[k].toNat:Int) == 10)=true:=by simp[gY]
     have hR:=hid (show R=([],0,21)from by rw[k9.out,if_neg h34,if_pos gY])
     clear gY h34
     go_wp2_with fail
     go_ret3
     exact⟨by rw[hR.out];rfl,gq⟩
    ·have kO:((s[k].toNat:Int) == 10)=false:=by simp;omega
     by_cases h92:s[k].toNat=92
     ·have dG:((s[k].toNat:Int) == 92)=true:=by simp[h92]
      have la:=Qbl (s.data.toList.drop (k+1))
      have kT:=fun wx=>QCi (s.extract (k+1) s.size) wx (by simp[maxLen];omega)
      rw[QAb]at kT
      have hR:=hid (show R=(if (esc (s.data.toList.drop (k+1))).2.2≠0 then([],0,(esc (s.data.toList.drop (k+1))).2.2)else qtA f ((s.data.toList.drop (k+1)).drop (esc (s.data.toList.drop (k+1))).2.1) (acc++[(esc (s.data.toList.drop (k+1))).1.toNat.toUInt8]) (k+(esc (s.data.toList.drop (k+1))).2.1+1))from by rw[k9.out,if_neg h34,if_neg gY,if_pos h92])
      clear k9 h92 gY h34
      generalize esc (s.data.toList.drop (k+1))=E at la kT hR
      obtain⟨ev,en,ee⟩:=E
      obtain⟨g1,g2,g3,g4,g5,g6,g7⟩:=la
      simp only[List.length_drop]at g1 g2 g3 g4 g5 g6 g7 kT hR
      have g4':en+(k+1)≤s.size:=by simp at g4;omega
      have HS:=hid kT;clear kT g4
      by_cases hz:ee=0
      ·subst hz
       have g5':=hid (g5 rfl);clear g5
       go_wp2_with (first | (go_at_call 121;refine(HS.out _).mono ?_;rintro e w1 ⟨rfl,nd,rfl⟩) | (go_at_call 122;refine(QHi _ _ (Lib.byteCells acc) ev _ (by exact hB) kh (by exact kc)).mono ?_;rintro e w1 ⟨rfl,He,Hn⟩))
       go_roundw
       case rel=>exact⟨k+en+1,f,acc++[ev.toNat.toUInt8],by omega,by omega,by omega,by simp;omega,by go_num,by have:=hR.out;rw[if_neg (by simp),List.drop_drop]at this;show _=_;rw[this,show k+1+en=k+en+1 from by omega],.inr (by rw[←Q1d acc ev g1 g2];exact He),(below_drewN gq nd).trans Hn⟩
       case measure=>simp[intOf];omega
      ·have hz':(ee != 0)=true:=by simpa using hz
       have HR:=hid (show R=([],0,ee)from by rw[hR.out,if_pos hz])
       clear hz g5
       go_wp2_with (first | (go_at_call 121;refine(HS.out _).mono ?_;rintro e w1 ⟨rfl,nd,rfl⟩))
       go_ret3
       exact⟨by rw[HR.out];rfl,below_drewN gq _⟩
     ·have dG:((s[k].toNat:Int) == 92)=false:=by simp;omega
      have hR:=hid (show R=qtA f (s.data.toList.drop (k+1)) (acc++[s[k]]) (k+1)from by rw[k9.out,if_neg h34,if_neg gY,if_neg h92])
      clear k9 h92 gY h34
      go_wp2_with (first | (go_at_call 122;refine(QHi _ _ (Lib.byteCells acc) _ _ hB kh kc).mono ?_;rintro e w1 ⟨rfl,He,Hn⟩))
      go_roundw
      case rel=>exact⟨k+1,f,acc++[s[k]],by omega,by omega,by omega,by simp;omega,by go_num,hR.out.symm,.inr (by simpa[Lib.byteCells]using He),gq.trans Hn⟩
      case measure=>simp[intOf];omega
  ·have hR:=hid (show R=([],0,21)from by rw[←hE.out,Q9a s k (by omega)];cases f <;> rfl)
   go_wp2_with fail
   go_ret3
   exact⟨by rw[hR.out];rfl,gq⟩
theorem Quc(s:ByteArray)(a b:Nat):s.extract a b=⟨((s.data.toList.take b).drop a).toArray⟩:=by
 apply ByteArray.ext
 apply Array.toList_inj.1
 rw[Qtd]
theorem QXg(s:ByteArray)(g:Nat)(p:Int→Bool)(w:World)(hp:QRh g p)(eg:∀args w,(callFunc g args).run Tryz.prog w = .ok (.enter g args) w)(hs:s.size≤maxLen) :
 Calls Tryz.prog 81 #[.string s,.int .i64 0,.func (.func g) #[] #[]] w fun e w'=>e = .returned (.int .i64 (QSa p s.data.toList))∧w=w':=
 Qgg s 0 g p w hp eg hs (Nat.zero_le _)
theorem QYg(s:ByteArray)(g:Nat)(p:Int→Bool)(w:World)(hp:QRh g p)(eg:∀args w,(callFunc g args).run Tryz.prog w = .ok (.enter g args) w)(hs:s.size≤maxLen)(h1:0<s.size) :
 Calls Tryz.prog 81 #[.string s,.int .i64 1,.func (.func g) #[] #[]] w fun e w'=>e = .returned (.int .i64 (QSa p (s.data.toList.drop 1)))∧w=w':=
 Qgg s 1 g p w hp eg hs h1
def Qbb(file:Int)(t:Tok):Value:=.agg #[.int .i64 t.kind,.string ⟨t.text.toArray⟩,.int .i64 t.value,.int .i64 file,.int .i64 t.line,.int .i64 t.col]
def QKc(s:ByteArray)(w:World)(e:Ending)(w':World):Prop:=
 e = .returned (.tuple #[Qbb 0 (Qya s.data.toList).1,.int .i64 (Qya s.data.toList).2.1,.int .i64 (Qya s.data.toList).2.2])∧Below w.heap.size w w'
theorem Q3d(s:ByteArray):s.data.toList.length=s.size:=by simp
theorem QUe(s:ByteArray)(n:Nat)(h:n<s.size):s.data.toList.getD n 0=s[n]:=by
 have:=Qxa s n h
 rw[List.getD_eq_getElem?_getD,List.getElem?_eq_getElem (by simpa using h)];rfl
theorem Qzl(s:ByteArray)(w:World)(hs:s.size≤140737488355328)(h1:0<s.size)(hc:Qja s[0].toNat=true∨(s[0].toNat:Int)=95∨(s[0].toNat:Int)=35) :
 Calls Tryz.prog 50 #[.string s] w (QKc s w):=by
 have hm:s.size≤maxLen:=by unfold maxLen;omega
 have hH:=Q9b s h1
 have hF:=hid (show Qya s.data.toList=if QSa Q2a s.data.toList=s.data.toList.length∨(s.data.toList.getD (QSa Q2a s.data.toList) 0).toNat≠58 then(⟨1,s.data.toList.take (QSa Q2a s.data.toList),0,0,0⟩,QSa Q2a s.data.toList,0)
  else if Qaf QIa (s.data.toList.take (QSa Q2a s.data.toList))=true then(⟨5,s.data.toList.take (QSa Q2a s.data.toList),0,0,0⟩,QSa Q2a s.data.toList+1,0)else(⟨0,[],0,0,0⟩,0,6)from by unfold Qya;simp only[hH];rw[if_pos hc])
 have gH:=fun wx=>QXg s 85 Q2a wx Q6e Q9d hm
 have hn:=Qnc Q2a s.data.toList
 have Hg:=fun wx=>QId (s.extract 0 (QSa Q2a s.data.toList)) 87 QIa wx Qbd QAc (by unfold maxLen at *;simp;omega)
 rw[Qtd,List.drop_zero]at Hg
 generalize QSa Q2a s.data.toList=n at hF gH hn Hg
 have HR:=hid gH;clear gH
 have HA:=hid Hg;clear Hg
 have hn':n≤s.size:=by simpa using hn
 clear hn hH
 have gO:Qja s[0].toNat=true∨Qja s[0].toNat=false∧((s[0].toNat:Int) == 95)=true∨Qja s[0].toNat=false∧((s[0].toNat:Int) == 95)=false∧((s[0].toNat:Int) == 35)=true:=by
  by_cases a:Qja s[0].toNat=true
  ·exact .inl a
  ·have a':Qja s[0].toNat=false:=by simpa using a
   by_cases b:(s[0].toNat:Int)=95
   ·exact .inr (.inl ⟨a',by simpa using b⟩)
   ·have c:(s[0].toNat:Int)=35:=by rcases hc with h|h|h;exact absurd h a;exact absurd h b;exact h
    exact .inr (.inr ⟨a',by simpa using b,by simpa using c⟩)
 clear hc
 by_cases eD:n=s.size
 ·have hR:=hid (show Qya s.data.toList=(⟨1,s.data.toList.take n,0,0,0⟩,n,0)from by rw[hF.out,if_pos (.inl (by simpa using eD))])
  have qc:((n:Int) == (s.size:Int))=true:=by simp;omega
  clear eD
  rcases gO with h|⟨h,h'⟩|⟨h,h',h''⟩
  all_goals
   go_enter Tryz.func50,Tryz.ntmps50
   go_wp2_with (first | (go_at_call 84;refine(QDa _ _).mono ?_;rintro e w' ⟨rfl,rfl⟩) | (go_at_call 81;refine(HR.out _).mono ?_;rintro e w' ⟨rfl,rfl⟩))
   exact bodyPost_ret (v:=.tuple #[.agg #[.int .i64 1,.string (s.extract 0 n),.int .i64 0,.int .i64 0,.int .i64 0,.int .i64 0],.int .i64 n,.int .i64 0]) (by simp[results,Tryz.results50,go_sem]) rfl ⟨by rw[hR.out,Quc];rfl,(Below.refl _ _).alloc (Nat.le_refl _) _⟩
 ·have Hj:n<s.size:=by omega
  have qc:((n:Int) == (s.size:Int))=false:=by simp;omega
  have hg:=QUe s n Hj
  by_cases jv:s[n].toNat=58
  ·have dF:((s[n].toNat:Int) != 58)=false:=by simp[jv]
   by_cases hw:Qaf QIa (s.data.toList.take n)=true
   ·have hR:=hid (show Qya s.data.toList=(⟨5,s.data.toList.take n,0,0,0⟩,n+1,0)from by rw[hF.out,if_neg,if_pos hw];rintro (h|h);exact eD (by simpa using h);rw[hg]at h;exact h jv)
    clear eD jv hg
    rcases gO with h|⟨h,h'⟩|⟨h,h',h''⟩
    all_goals
     go_enter Tryz.func50,Tryz.ntmps50
     go_wp2_with (first | (go_at_call 84;refine(QDa _ _).mono ?_;rintro e w' ⟨rfl,rfl⟩) | (go_at_call 81;refine(HR.out _).mono ?_;rintro e w' ⟨rfl,rfl⟩) | (go_at_call 86;refine(HA.out _).mono ?_;rintro e w' ⟨rfl,rfl⟩))
     exact bodyPost_ret (v:=.tuple #[.agg #[.int .i64 5,.string (s.extract 0 n),.int .i64 0,.int .i64 0,.int .i64 0,.int .i64 0],.int .i64 (n+1),.int .i64 0]) (by simp[results,Tryz.results50,go_sem]) rfl ⟨by rw[hR.out,Quc];rfl,(Below.refl _ _).alloc (Nat.le_refl _) _⟩
   ·have hw:Qaf QIa (s.data.toList.take n)=false:=by simpa using hw
    have hR:=hid (show Qya s.data.toList=(⟨0,[],0,0,0⟩,0,6)from by rw[hF.out,if_neg,if_neg (by simp[hw])];rintro (h|h);exact eD (by simpa using h);rw[hg]at h;exact h jv)
    clear eD jv hg
    rcases gO with h|⟨h,h'⟩|⟨h,h',h''⟩
    all_goals
     go_enter Tryz.func50,Tryz.ntmps50
     go_wp2_with (first | (go_at_call 84;refine(QDa _ _).mono ?_;rintro e w' ⟨rfl,rfl⟩) | (go_at_call 81;refine(HR.out _).mono ?_;rintro e w' ⟨rfl,rfl⟩) | (go_at_call 86;refine(HA.out _).mono ?_;rintro e w' ⟨rfl,rfl⟩))
     exact bodyPost_ret (v:=.tuple #[.agg #[.int .i64 0,.string ⟨#[]⟩,.int .i64 0,.int .i64 0,.int .i64 0,.int .i64 0],.int .i64 0,.int .i64 6]) (by simp[results,Tryz.results50,go_sem]) rfl ⟨by rw[hR.out];rfl,(Below.refl _ _).alloc (Nat.le_refl _) _⟩
  ·have dF:((s[n].toNat:Int) != 58)=true:=by simp;omega
   have hR:=hid (show Qya s.data.toList=(⟨1,s.data.toList.take n,0,0,0⟩,n,0)from by rw[hF.out,if_pos];right;rw[hg];exact jv)
   clear eD jv hg
   rcases gO with h|⟨h,h'⟩|⟨h,h',h''⟩
   all_goals
    go_enter Tryz.func50,Tryz.ntmps50
    go_wp2_with (first | (go_at_call 84;refine(QDa _ _).mono ?_;rintro e w' ⟨rfl,rfl⟩) | (go_at_call 81;refine(HR.out _).mono ?_;rintro e w' ⟨rfl,rfl⟩) | (go_at_call 86;refine(HA.out _).mono ?_;rintro e w' ⟨rfl,rfl⟩))
    exact bodyPost_ret (v:=.tuple #[.agg #[.int .i64 1,.string (s.extract 0 n),.int .i64 0,.int .i64 0,.int .i64 0,.int .i64 0],.int .i64 n,.int .i64 0]) (by simp[results,Tryz.results50,go_sem]) rfl ⟨by rw[hR.out,Quc];rfl,(Below.refl _ _).alloc (Nat.le_refl _) _⟩
theorem QEg(c:Int)(hc:¬(Qja c=true∨c=95∨c=35)):Qja c=false∧(c == 95)=false∧(c == 35)=false:=by
 refine⟨?_,?_,?_⟩
 ·cases h:Qja c;rfl;exact absurd (.inl h) hc
 ·simp;intro h;exact hc (.inr (.inl h))
 ·simp;intro h;exact hc (.inr (.inr h))
theorem Qrk(s:ByteArray)(w:World)(hs:s.size≤140737488355328)(h1:0<s.size)(hc:¬(Qja s[0].toNat=true∨(s[0].toNat:Int)=95∨(s[0].toNat:Int)=35))(hd:QOa s[0].toNat=true) :
 Calls Tryz.prog 50 #[.string s] w (QKc s w):=by
 have hm:s.size≤maxLen:=by unfold maxLen;omega
 have hH:=Q9b s h1
 have hF:=hid (show Qya s.data.toList=(⟨2,[],(Q5d (s.data.toList.take (QSa QIa s.data.toList))).1,0,0⟩,QSa QIa s.data.toList,(Q5d (s.data.toList.take (QSa QIa s.data.toList))).2)from by unfold Qya;simp only[hH];rw[if_neg hc,if_pos hd])
 have gH:=fun wx=>QXg s 87 QIa wx Qbd QAc hm
 have hn:=Qnc QIa s.data.toList
 have gV:=fun wx=>QDi (s.extract 0 (QSa QIa s.data.toList)) wx (by unfold maxLen at *;simp;omega)
 rw[Qtd,List.drop_zero]at gV
 generalize QSa QIa s.data.toList=n at hF gH hn gV
 generalize Q5d (s.data.toList.take n)=N at hF gV
 have HR:=hid gH;clear gH
 have HA:=hid gV;clear gV
 have hn':n≤s.size:=by simpa using hn
 clear hn hH
 obtain⟨h,h',h''⟩:=QEg _ hc
 clear hc
 go_enter Tryz.func50,Tryz.ntmps50
 go_wp2_with (first | (go_at_call 84;refine(QDa _ _).mono ?_;rintro e w' ⟨rfl,rfl⟩) | (go_at_call 88;refine(QMa _ _).mono ?_;rintro e w' ⟨rfl,rfl⟩) | (go_at_call 81;refine(HR.out _).mono ?_;rintro e w' ⟨rfl,rfl⟩) | (go_at_call 89;refine(HA.out _).mono ?_;rintro e w' ⟨rfl,nd,rfl⟩))
 exact bodyPost_ret (v:=.tuple #[.agg #[.int .i64 2,.string ⟨#[]⟩,.int .i64 N.1,.int .i64 0,.int .i64 0,.int .i64 0],.int .i64 n,.int .i64 N.2]) (by simp[results,Tryz.results50,go_sem]) rfl ⟨by rw[hF.out];rfl,
  ((((((below_drewN ((Below.refl _ _).alloc (Nat.le_refl _) _) nd).setCell (Nat.le_refl _) _).setCell (Nat.le_refl _) _).setCell (Nat.le_refl _) _).setCell (Nat.le_refl _) _).setCell (Nat.le_refl _) _).setCell (Nat.le_refl _) _⟩
theorem six{w:World}{b:Nat}{x0 x1 x2 x3 x4 x5:Value}{t:TypeId}(h:Qca w b #[x0,x1,x2,x3,x4,x5] t) :
 (w.cell? ⟨b,0,none⟩=some x0∧w.cell? ⟨b,1,none⟩=some x1∧w.cell? ⟨b,2,none⟩=some x2∧w.cell? ⟨b,3,none⟩=some x3∧w.cell? ⟨b,4,none⟩=some x4∧w.cell? ⟨b,5,none⟩=some x5)∧
 (w.frozen? ⟨b,0,none⟩=false∧w.frozen? ⟨b,1,none⟩=false∧w.frozen? ⟨b,2,none⟩=false∧w.frozen? ⟨b,3,none⟩=false∧w.frozen? ⟨b,4,none⟩=false∧w.frozen? ⟨b,5,none⟩=false):=
 ⟨⟨h.cell 0,h.cell 1,h.cell 2,h.cell 3,h.cell 4,h.cell 5⟩,h.free 0,h.free 1,h.free 2,h.free 3,h.free 4,h.free 5⟩
theorem Q6i(s:ByteArray)(w:World)(hs:s.size≤140737488355328)(h1:0<s.size)(hc:¬(Qja s[0].toNat=true∨(s[0].toNat:Int)=95∨(s[0].toNat:Int)=35))(hd:QOa s[0].toNat=false)(hq:(s[0].toNat:Int)=34) :
 Calls Tryz.prog 50 #[.string s] w (QKc s w):=by
 have hH:=Q9b s h1
 have hF:=hid (show Qya s.data.toList=(⟨3,(qtA s.data.toList.length (s.data.toList.drop 1) [] 1).1,0,0,0⟩,(qtA s.data.toList.length (s.data.toList.drop 1) [] 1).2.1,(qtA s.data.toList.length (s.data.toList.drop 1) [] 1).2.2)from by unfold Qya;simp only[hH];rw[if_neg hc,if_neg (by simp[hd]),if_pos hq])
 have gV:=fun wx=>QEi s wx hs h1
 generalize qtA s.data.toList.length (s.data.toList.drop 1) [] 1=Q at hF gV
 have HA:=hid gV;clear gV
 have hq':((s[0].toNat:Int) == 34)=true:=by simpa using hq
 obtain⟨h,h',h''⟩:=QEg _ hc
 clear hc hq hH
 go_enter Tryz.func50,Tryz.ntmps50
 go_wp2_with (first | (go_at_call 84;refine(QDa _ _).mono ?_;rintro e w' ⟨rfl,rfl⟩) | (go_at_call 88;refine(QMa _ _).mono ?_;rintro e w' ⟨rfl,rfl⟩))
 refine(HA.out _).mono ?_
 rintro e w1 ⟨rfl,He⟩
 have hB:Qca w1 w.heap.size #[.int .i64 0,.string ⟨#[]⟩,.int .i64 0,.int .i64 0,.int .i64 0,.int .i64 0] 65:=(He.block w.heap.size (by simp)).trans (Qca.new w _ _)
 obtain⟨⟨c0,c1,c2,c3,c4,c5⟩,f0,f1,f2,f3,f4,f5⟩:=six hB
 have Hj:=hB.lt
 have Hn:Below w.heap.size w w1:=((Below.refl _ _).alloc (Nat.le_refl _) _).trans (He.mono (by simp))
 go_wp2_with fail
 exact bodyPost_ret (v:=.tuple #[.agg #[.int .i64 3,.string ⟨Q.1.toArray⟩,.int .i64 0,.int .i64 0,.int .i64 0,.int .i64 0],.int .i64 Q.2.1,.int .i64 Q.2.2]) (by simp[results,Tryz.results50,go_sem,c0,c1,c2,c3,c4,c5]) rfl ⟨by rw[hF.out];rfl,
  (((((Hn.setCell (Nat.le_refl _) _).setCell (Nat.le_refl _) _).setCell (Nat.le_refl _) _).setCell (Nat.le_refl _) _).setCell (Nat.le_refl _) _).setCell (Nat.le_refl _) _⟩
theorem QYm(s:ByteArray)(w:World)(hs:s.size≤140737488355328)(h1:0<s.size)(hc:¬(Qja s[0].toNat=true∨(s[0].toNat:Int)=95∨(s[0].toNat:Int)=35))(hd:QOa s[0].toNat=false)(hq:¬(s[0].toNat:Int)=34)(mN:(s[0].toNat:Int)=38)(gW:1<s.size)(hl:Qja s[1].toNat=true∨(s[1].toNat:Int)=95) :
 Calls Tryz.prog 50 #[.string s] w (QKc s w):=by
 have hm:s.size≤maxLen:=by unfold maxLen;omega
 have hH:=Q9b s h1
 have hG:=QUe s 1 gW
 have hF:=hid (show Qya s.data.toList=(⟨6,(s.data.toList.take (QSa QIa (s.data.toList.drop 1)+1)).drop 1,0,0,0⟩,QSa QIa (s.data.toList.drop 1)+1,0)from by
  unfold Qya;simp only[hH];rw[if_neg hc,if_neg (by simp[hd]),if_neg hq,if_pos ⟨mN,by simpa using gW,by rw[hG];rcases hl with h|h;exact .inl h;right;omega⟩])
 have gH:=fun wx=>QYg s 87 QIa wx Qbd QAc hm h1
 have hn:=Qnc QIa (s.data.toList.drop 1)
 generalize QSa QIa (s.data.toList.drop 1)=n at hF gH hn
 have HR:=hid gH;clear gH
 have hn':n+1≤s.size:=by simp at hn;omega
 have hq':((s[0].toNat:Int) == 34)=false:=by simpa using hq
 have dE:((s[0].toNat:Int) == 38)=true:=by simpa using mN
 obtain⟨h,h',h''⟩:=QEg _ hc
 clear hn hH hG hc hq mN
 by_cases Ks:Qja s[1].toNat=true
 ·clear hl
  go_enter Tryz.func50,Tryz.ntmps50
  go_wp2_with (first | (go_at_call 84;refine(QDa _ _).mono ?_;rintro e w' ⟨rfl,rfl⟩) | (go_at_call 88;refine(QMa _ _).mono ?_;rintro e w' ⟨rfl,rfl⟩) | (go_at_call 81;refine(HR.out _).mono ?_;rintro e w' ⟨rfl,rfl⟩))
  exact bodyPost_ret (v:=.tuple #[.agg #[.int .i64 6,.string (s.extract 1 (n+1)),.int .i64 0,.int .i64 0,.int .i64 0,.int .i64 0],.int .i64 (n+1),.int .i64 0]) (by simp[results,Tryz.results50,go_sem]) rfl ⟨by rw[hF.out,Quc];rfl,(Below.refl _ _).alloc (Nat.le_refl _) _⟩
 ·have KQ:((s[1].toNat:Int) == 95)=true:=by rcases hl with h|h;exact absurd h Ks;simpa using h
  have Ks:Qja s[1].toNat=false:=by simpa using Ks
  clear hl
  go_enter Tryz.func50,Tryz.ntmps50
  go_wp2_with (first | (go_at_call 84;refine(QDa _ _).mono ?_;rintro e w' ⟨rfl,rfl⟩) | (go_at_call 88;refine(QMa _ _).mono ?_;rintro e w' ⟨rfl,rfl⟩) | (go_at_call 81;refine(HR.out _).mono ?_;rintro e w' ⟨rfl,rfl⟩))
  exact bodyPost_ret (v:=.tuple #[.agg #[.int .i64 6,.string (s.extract 1 (n+1)),.int .i64 0,.int .i64 0,.int .i64 0,.int .i64 0],.int .i64 (n+1),.int .i64 0]) (by simp[results,Tryz.results50,go_sem]) rfl ⟨by rw[hF.out,Quc];rfl,(Below.refl _ _).alloc (Nat.le_refl _) _⟩
def sgT(l:List UInt8):Tok × Nat × Int:=if QHb l > 0 then(⟨4,l.take (QHb l),0,0,0⟩,QHb l,0)else(⟨0,[],0,0,0⟩,0,20)
theorem Q8j(l:List UInt8)(h:l≠[]):QHb l≤l.length:=by
 unfold QHb
 split
 ·rename_i h2
  simp only[QVa,List.any_cons,List.any_nil,Bool.or_false,Bool.or_eq_true]at h2
  rcases h2 with h2|h2|h2|h2|h2|h2|h2|h2 <;> exact Lib.hasPrefix_le h2
 ·split
  ·have:=List.length_pos_iff.2 h;omega
  ·omega
theorem QAl(s:ByteArray)(w:World)(hs:s.size≤140737488355328)(h1:0<s.size)(hc:¬(Qja s[0].toNat=true∨(s[0].toNat:Int)=95∨(s[0].toNat:Int)=35))(hd:QOa s[0].toNat=false)(hq:¬(s[0].toNat:Int)=34)(mN:¬((s[0].toNat:Int)=38∧1<s.size∧(Qja (s.data.toList.getD 1 0).toNat=true∨(s.data.toList.getD 1 0).toNat=95)))(Kx:¬(s[0].toNat:Int)=47) :
 Calls Tryz.prog 50 #[.string s] w (QKc s w):=by
 have hm:s.size≤maxLen:=by unfold maxLen;omega
 have hH:=Q9b s h1
 have hF:=hid (show Qya s.data.toList=sgT s.data.toList from by
  unfold Qya;simp only[hH];rw[if_neg hc,if_neg (by simp[hd]),if_neg hq,if_neg (by simpa using mN),if_neg Kx];rfl)
 have Hf:=fun wx=>QZg s wx hm h1
 have hn:=Q8j s.data.toList (by intro e;have h2:=Q3d s;rw[e]at h2;simp only[List.length_nil]at h2;omega)
 unfold sgT at hF
 generalize QHb s.data.toList=n at hF Hf hn
 have HR:=hid Hf;clear Hf
 have hn':n≤s.size:=by simpa using hn
 have hq':((s[0].toNat:Int) == 34)=false:=by simpa using hq
 have iz:((s[0].toNat:Int) == 47)=false:=by simpa using Kx
 obtain⟨h,h',h''⟩:=QEg _ hc
 have ix:((s[0].toNat:Int) == 38)=false∨((s[0].toNat:Int) == 38)=true∧¬1<s.size∨∃gW:1<s.size,((s[0].toNat:Int) == 38)=true∧Qja s[1].toNat=false∧((s[1].toNat:Int) == 95)=false:=by
  by_cases a:(s[0].toNat:Int)=38
  ·by_cases b:1<s.size
   ·rw[QUe s 1 b]at mN
    refine .inr (.inr ⟨b,by simpa using a,?_,?_⟩)
    ·cases hx:Qja s[1].toNat;rfl;exact absurd ⟨a,b,.inl hx⟩ mN
    ·simp;intro hx;exact mN ⟨a,b,.inr (by omega)⟩
   ·exact .inr (.inl ⟨by simpa using a,b⟩)
  ·exact .inl (by simpa using a)
 clear hn hH hc hq mN Kx
 by_cases MN:0<n
 ·have hR:=hid (show Qya s.data.toList=(⟨4,s.data.toList.take n,0,0,0⟩,n,0)from by rw[hF.out,if_pos MN])
  rcases ix with g|⟨g,g'⟩|⟨g,g',g2,g3⟩
  all_goals
   go_enter Tryz.func50,Tryz.ntmps50
   go_wp2_with (first | (go_at_call 84;refine(QDa _ _).mono ?_;rintro e w' ⟨rfl,rfl⟩) | (go_at_call 88;refine(QMa _ _).mono ?_;rintro e w' ⟨rfl,rfl⟩) | (go_at_call 92;refine(HR.out _).mono ?_;rintro e w' ⟨rfl,rfl⟩))
   exact bodyPost_ret (v:=.tuple #[.agg #[.int .i64 4,.string (s.extract 0 n),.int .i64 0,.int .i64 0,.int .i64 0,.int .i64 0],.int .i64 n,.int .i64 0]) (by simp[results,Tryz.results50,go_sem]) rfl ⟨by rw[hR.out,Quc];rfl,(Below.refl _ _).alloc (Nat.le_refl _) _⟩
 ·have MN:n=0:=by omega
  subst MN
  have hR:=hid (show Qya s.data.toList=(⟨0,[],0,0,0⟩,0,20)from by rw[hF.out,if_neg (by omega)])
  rcases ix with g|⟨g,g'⟩|⟨g,g',g2,g3⟩
  all_goals
   go_enter Tryz.func50,Tryz.ntmps50
   go_wp2_with (first | (go_at_call 84;refine(QDa _ _).mono ?_;rintro e w' ⟨rfl,rfl⟩) | (go_at_call 88;refine(QMa _ _).mono ?_;rintro e w' ⟨rfl,rfl⟩) | (go_at_call 92;refine(HR.out _).mono ?_;rintro e w' ⟨rfl,rfl⟩))
   exact bodyPost_ret (v:=.tuple #[.agg #[.int .i64 0,.string ⟨#[]⟩,.int .i64 0,.int .i64 0,.int .i64 0,.int .i64 0],.int .i64 0,.int .i64 20]) (by simp[results,Tryz.results50,go_sem]) rfl ⟨by rw[hR.out];rfl,(Below.refl _ _).alloc (Nat.le_refl _) _⟩
theorem QBl(s:ByteArray)(w:World)(hs:s.size≤140737488355328)(h1:0<s.size)(hc:¬(Qja s[0].toNat=true∨(s[0].toNat:Int)=95∨(s[0].toNat:Int)=35))(hd:QOa s[0].toNat=false)(hq:¬(s[0].toNat:Int)=34)(Kx:(s[0].toNat:Int)=47) :
 Calls Tryz.prog 50 #[.string s] w (QKc s w):=by
 have hm:s.size≤maxLen:=by unfold maxLen;omega
 have hH:=Q9b s h1
 have hF:=hid (show Qya s.data.toList=if QSa QQa (s.data.toList.drop 1) > 0∧QSa QQa (s.data.toList.drop 1)+1<s.data.toList.length∧(s.data.toList.getD (QSa QQa (s.data.toList.drop 1)+1) 0).toNat=47 then(⟨7,(s.data.toList.take (QSa QQa (s.data.toList.drop 1)+1)).drop 1,0,0,0⟩,QSa QQa (s.data.toList.drop 1)+2,0)else sgT s.data.toList from by
  unfold Qya;simp only[hH];rw[if_neg hc,if_neg (by simp[hd]),if_neg hq,if_neg (by rintro ⟨a,_⟩;omega),if_pos Kx];rfl)
 have Hf:=fun wx=>QZg s wx hm h1
 have hn:=Q8j s.data.toList (by intro e;have h2:=Q3d s;rw[e]at h2;simp only[List.length_nil]at h2;omega)
 have gH:=fun wx=>QYg s 91 QQa wx Qvj Q4h hm h1
 have hu:=Qnc QQa (s.data.toList.drop 1)
 unfold sgT at hF
 generalize QHb s.data.toList=n at hF Hf hn
 generalize QSa QQa (s.data.toList.drop 1)=u at hF gH hu
 have HR:=hid Hf;clear Hf
 have HU:=hid gH;clear gH
 have hn':n≤s.size:=by simpa using hn
 have hu':u+1≤s.size:=by simp at hu;omega
 have hq':((s[0].toNat:Int) == 34)=false:=by simpa using hq
 have dE:((s[0].toNat:Int) == 38)=false:=by simp;omega
 have iz:((s[0].toNat:Int) == 47)=true:=by simpa using Kx
 obtain⟨h,h',h''⟩:=QEg _ hc
 clear hn hu hH hc hq Kx
 by_cases hw:0<u∧u+1<s.size∧(s.data.toList.getD (u+1) 0).toNat=47
 ·obtain⟨g1,g2,g3⟩:=hw
  have hR:=hid (show Qya s.data.toList=(⟨7,(s.data.toList.take (u+1)).drop 1,0,0,0⟩,u+2,0)from by rw[hF.out,if_pos ⟨g1,by rw[Q3d];exact g2,g3⟩])
  rw[QUe s _ g2]at g3
  have g4:((s[u+1].toNat:Int) == 47)=true:=by simp[g3]
  clear g3
  go_enter Tryz.func50,Tryz.ntmps50
  go_wp2_with (first | (go_at_call 84;refine(QDa _ _).mono ?_;rintro e w' ⟨rfl,rfl⟩) | (go_at_call 88;refine(QMa _ _).mono ?_;rintro e w' ⟨rfl,rfl⟩) | (go_at_call 81;refine(HU.out _).mono ?_;rintro e w' ⟨rfl,rfl⟩) | (go_at_call 92;refine(HR.out _).mono ?_;rintro e w' ⟨rfl,rfl⟩))
  exact bodyPost_ret (v:=.tuple #[.agg #[.int .i64 7,.string (s.extract 1 (u+1)),.int .i64 0,.int .i64 0,.int .i64 0,.int .i64 0],.int .i64 (u+2),.int .i64 0]) (by simp[results,Tryz.results50,go_sem]) rfl ⟨by rw[hR.out,Quc];rfl,(Below.refl _ _).alloc (Nat.le_refl _) _⟩
 ·have j7:=hid (show Qya s.data.toList=if n > 0 then(⟨4,s.data.toList.take n,0,0,0⟩,n,0)else(⟨0,[],0,0,0⟩,0,20)from by rw[hF.out,if_neg (by rw[Q3d];exact hw)])
  have Mj:u=0∨(0<u∧¬u+1<s.size)∨(0<u∧∃g:u+1<s.size,((s[u+1].toNat:Int) == 47)=false):=by
   by_cases a:0<u
   ·by_cases b:u+1<s.size
    ·refine .inr (.inr ⟨a,b,?_⟩)
     rw[QUe s _ b]at hw
     simp;intro hx;exact hw ⟨a,b,by omega⟩
    ·exact .inr (.inl ⟨a,b⟩)
   ·exact .inl (by omega)
  clear hw
  by_cases MN:0<n
  ·have hR:=hid (show Qya s.data.toList=(⟨4,s.data.toList.take n,0,0,0⟩,n,0)from by rw[j7.out,if_pos MN])
   rcases Mj with rfl|⟨g,g'⟩|⟨g,g',g2⟩
   all_goals
    go_enter Tryz.func50,Tryz.ntmps50
    go_wp2_with (first | (go_at_call 84;refine(QDa _ _).mono ?_;rintro e w' ⟨rfl,rfl⟩) | (go_at_call 88;refine(QMa _ _).mono ?_;rintro e w' ⟨rfl,rfl⟩) | (go_at_call 81;refine(HU.out _).mono ?_;rintro e w' ⟨rfl,rfl⟩) | (go_at_call 92;refine(HR.out _).mono ?_;rintro e w' ⟨rfl,rfl⟩))
    exact bodyPost_ret (v:=.tuple #[.agg #[.int .i64 4,.string (s.extract 0 n),.int .i64 0,.int .i64 0,.int .i64 0,.int .i64 0],.int .i64 n,.int .i64 0]) (by simp[results,Tryz.results50,go_sem]) rfl ⟨by rw[hR.out,Quc];rfl,(Below.refl _ _).alloc (Nat.le_refl _) _⟩
  ·have MN:n=0:=by omega
   subst MN
   have hR:=hid (show Qya s.data.toList=(⟨0,[],0,0,0⟩,0,20)from by rw[j7.out,if_neg (by omega)])
   rcases Mj with rfl|⟨g,g'⟩|⟨g,g',g2⟩
   all_goals
    go_enter Tryz.func50,Tryz.ntmps50
    go_wp2_with (first | (go_at_call 84;refine(QDa _ _).mono ?_;rintro e w' ⟨rfl,rfl⟩) | (go_at_call 88;refine(QMa _ _).mono ?_;rintro e w' ⟨rfl,rfl⟩) | (go_at_call 81;refine(HU.out _).mono ?_;rintro e w' ⟨rfl,rfl⟩) | (go_at_call 92;refine(HR.out _).mono ?_;rintro e w' ⟨rfl,rfl⟩))
    exact bodyPost_ret (v:=.tuple #[.agg #[.int .i64 0,.string ⟨#[]⟩,.int .i64 0,.int .i64 0,.int .i64 0,.int .i64 0],.int .i64 0,.int .i64 20]) (by simp[results,Tryz.results50,go_sem]) rfl ⟨by rw[hR.out];rfl,(Below.refl _ _).alloc (Nat.le_refl _) _⟩
theorem QMk(s:ByteArray)(w:World)(hs:s.size≤140737488355328)(h1:0<s.size):Calls Tryz.prog 50 #[.string s] w (QKc s w):=by
 by_cases hc:Qja s[0].toNat=true∨(s[0].toNat:Int)=95∨(s[0].toNat:Int)=35
 ·exact Qzl s w hs h1 hc
 ·cases hd:QOa s[0].toNat
  ·by_cases hq:(s[0].toNat:Int)=34
   ·exact Q6i s w hs h1 hc hd hq
   ·by_cases Kx:(s[0].toNat:Int)=47
    ·exact QBl s w hs h1 hc hd hq Kx
    ·by_cases mN:(s[0].toNat:Int)=38∧1<s.size∧(Qja (s.data.toList.getD 1 0).toNat=true∨(s.data.toList.getD 1 0).toNat=95)
     ·obtain⟨a,b,c⟩:=mN
      rw[QUe s 1 b]at c
      exact QYm s w hs h1 hc hd hq a b (by rcases c with c|c;exact .inl c;right;omega)
     ·exact QAl s w hs h1 hc hd hq mN Kx
  ·exact Qrk s w hs h1 hc hd
def Qxb(file:Int)(t:Tok):List Value:=[.int .i64 t.kind,.string ⟨t.text.toArray⟩,.int .i64 t.value,.int .i64 file,.int .i64 t.line,.int .i64 t.col]
def Qpb(file:Int)(l:List Tok):List Value:=l.flatMap (Qxb file)
def QJb(p:Int × Int × Int):Value:=.agg #[.int .i64 p.1,.int .i64 p.2.1,.int .i64 p.2.2]
theorem Qfc(file:Int)(l:List Tok)(t:Tok):Qpb file (l++[t])=Qpb file l++Qxb file t:=by simp[Qpb]
theorem QKh(file:Int)(t:Tok):∀u∈Qxb file t,u.oneCell'=true:=by
 intro u hu
 simp only[Qxb,List.mem_cons,List.not_mem_nil,or_false]at hu
 rcases hu with rfl|rfl|rfl|rfl|rfl|rfl <;> rfl
def QKd(s:ByteArray)(file:Int)(w:World)(e:Ending)(w':World):Prop:=
 ∃v,e = .returned (.tuple #[v,QJb (Qub s.data.toList file).2.1,.int .i64 (Qub s.data.toList file).2.2])∧
  w'.ownsRow w.heap.size 65 6 v (Qub s.data.toList file).1.length (Qpb file (Qub s.data.toList file).1)∧Below w.heap.size w w'
theorem Qrc{w:World}{base:Nat}{e:TypeId}{size:Nat}{v:Value}{n:Nat}{xs:List Value}(h:w.ownsRow base e size v n xs):∃a cap,v = .slice a n cap:=by
 rcases h.2 with⟨rfl,rfl⟩|⟨g,cap,cur,rfl,_⟩
 ·exact⟨none,0,rfl⟩
 ·exact⟨_,_,rfl⟩
theorem Qef{w:World}{base base':Nat}{e:TypeId}{size:Nat}{v:Value}{n:Nat}{xs:List Value}(h:w.ownsRow base e size v n xs)(hb:base'≤base):w.ownsRow base' e size v n xs:=by
 refine⟨h.1,?_⟩
 rcases h.2 with hn|⟨g,cap,cur,rfl,hg,r⟩
 ·exact .inl hn
 ·exact .inr ⟨g,cap,cur,rfl,by omega,r⟩
theorem tri{w:World}{b:Nat}{x0 x1 x2:Value}{t:TypeId}(h:Qca w b #[x0,x1,x2] t) :
 w.cell? ⟨b,0,none⟩=some x0∧w.cell? ⟨b,1,none⟩=some x1∧w.cell? ⟨b,2,none⟩=some x2∧w.frozen? ⟨b,0,none⟩=false∧w.frozen? ⟨b,1,none⟩=false∧w.frozen? ⟨b,2,none⟩=false:=
 ⟨h.cell 0,h.cell 1,h.cell 2,h.free 0,h.free 1,h.free 2⟩
section
variable{file:Int}{f:Nat}{l:List UInt8}{p:Int × Int}{acc:List Tok}{B:Nat × Bool}
theorem QRl(hB:blk l.length l=B)(h:B.2=true):rdA file (f+1) l p acc=([],(file,(adv (l.take B.1) p).1,(adv (l.take B.1) p).2),21):=by
 subst hB;simp only[rdA];rw[if_pos h]
theorem QWj(hB:blk l.length l=B)(h:B.2=false)(h2:acc.length=6000):rdA file (f+1) l p acc=([],(file,(adv (l.take B.1) p).1,(adv (l.take B.1) p).2),3):=by
 subst hB;simp only[rdA];rw[if_neg (by simp[h]),if_pos h2]
theorem QTl(hB:blk l.length l=B)(h:B.2=false)(h2:acc.length≠6000)(h3:l.drop B.1=[]):rdA file (f+1) l p acc=(acc++[⟨8,[],0,(adv (l.take B.1) p).1,(adv (l.take B.1) p).2⟩],(0,0,0),0):=by
 subst hB;simp only[rdA];rw[if_neg (by simp[h]),if_neg h2,if_pos h3]
theorem QUl(hB:blk l.length l=B)(h:B.2=false)(h2:acc.length≠6000)(h3:l.drop B.1≠[]){t:Tok × Nat × Int}(ht:Qya (l.drop B.1)=t)(h4:t.2.2≠0):rdA file (f+1) l p acc=([],(file,(adv (l.take B.1) p).1,(adv (l.take B.1) p).2),t.2.2):=by
 subst hB ht;simp only[rdA];rw[if_neg (by simp[h]),if_neg h2,if_neg h3,if_pos h4]
theorem QZn(hB:blk l.length l=B)(h:B.2=false)(h2:acc.length≠6000)(h3:l.drop B.1≠[]){t:Tok × Nat × Int}(ht:Qya (l.drop B.1)=t)(h4:t.2.2=0) :
 rdA file (f+1) l p acc=rdA file f ((l.drop B.1).drop t.2.1) (adv ((l.drop B.1).take t.2.1) (adv (l.take B.1) p)) (acc++[{ t.1 with line:=(adv (l.take B.1) p).1,col:=(adv (l.take B.1) p).2 }]):=by
 subst hB ht;simp only[rdA];rw[if_neg (by simp[h]),if_neg h2,if_neg h3,if_neg (by simp[h4])]
end
def Qxq(s:ByteArray)(file:Int)(w:World)(R:List Tok × (Int × Int × Int) × Int)(f:Nat)(v:Value)(wr:World):Prop:=
 ∃(j:Nat) (l c:Int) (toks:List Tok),j≤s.size∧s.size<j+f∧1≤l∧l≤j+1∧1≤c∧c≤j+1∧rdA file f (s.data.toList.drop j) (l,c) toks=R∧toks.length≤6000∧
  wr.ownsRow (w.heap.size+2) 65 6 v toks.length (Qpb file toks)∧Qca wr (w.heap.size+1) (QRb s j file l c) 98∧Qca wr w.heap.size #[.int .i64 0,.int .i64 0,.int .i64 0] 27∧Below w.heap.size w wr
theorem Qch:(Tryz.prog.info? 65).map (fun i=>(i.zero,i.size,i.bytes))=some (some (.agg #[.int .i64 0,.string ⟨#[]⟩,.int .i64 0,.int .i64 0,.int .i64 0,.int .i64 0]),6,56):=by kernel_rfl
theorem QLk(s:ByteArray)(file:Int)(w:World)(hs:s.size≤maxLen)(h0:Qhf w) :
 Calls Tryz.prog 27 #[.string s,.int .i64 file] w (QKd s file w):=by
 unfold maxLen at hs
 by_cases JR:16000<s.size
 ·have hF:=hid (show Qub s.data.toList file=([],(0,0,0),3)from by unfold Qub;rw[Q3d,if_pos JR])
  go_enter Tryz.func27,Tryz.ntmps27
  go_wp2_with fail
  exact bodyPost_ret (v:=.tuple #[.slice none 0 0,.agg #[.int .i64 0,.int .i64 0,.int .i64 0],.int .i64 3]) (by simp[results,Tryz.results27,go_sem]) rfl ⟨_,by rw[hF.out];rfl,by rw[hF.out];exact World.ownsRow_nil _ _ _ _,(Below.refl _ _).alloc (Nat.le_refl _) _⟩
 ·have JR:s.size≤16000:=by omega
  have hF:Qub s.data.toList file=rdA file (s.size+1) s.data.toList (1,1) []:=by unfold Qub;rw[Q3d,if_neg (by omega)]
  unfold QKd
  generalize Qub s.data.toList file=R at hF
  have HF:=hid hF;clear hF
  go_enter Tryz.func27,Tryz.ntmps27
  go_wp2_with fail
  go_loopg [8] (s.size+1) (fun f v wr=>Qxq s file w R f v wr)
  case atStart=>exact⟨0,1,1,[],by omega,by omega,by omega,by omega,by omega,by omega,HF.out.symm,by simp,World.ownsRow_nil _ _ _ _,by
   have:=Qca.new (w.alloc (.cells #[.int .i64 0,.int .i64 0,.int .i64 0] 27)) (QRb s 0 file 1 1) 98
   rw[show(w.alloc (.cells #[.int .i64 0,.int .i64 0,.int .i64 0] 27)).heap.size=w.heap.size+1 from by simp]at this
   exact this,(Qca.new w _ _).alloc _,((Below.refl _ _).alloc (Nat.le_refl _) _).alloc (by simp) _⟩
  case round=>
   obtain⟨j,l,c,toks,hj,hf,Ks,KQ,mw,Kc,hE,gm,Hl,hH,hP,gq⟩:=hrel
   obtain⟨f,rfl⟩:∃f',gk=f'+1:=⟨gk-1,by omega⟩
   have tP:Qhf wr:=h0.keeps (Qaa.of_fresh gq (fun _=>False)) (fun e=>e)
   have kD:=QBi s j file l c (w.heap.size+1) wr hH hj JR Ks KQ mw Kc tP
   unfold Qme at kD
   have G6:=QIj s j (s.size-j) hj
   have mu:blk (s.data.toList.drop j).length (s.data.toList.drop j)=blk (s.size-j) (s.data.toList.drop j):=by congr 1;simp
   generalize blk (s.size-j) (s.data.toList.drop j)=B at kD G6 mu
   obtain⟨bn,bx⟩:=B
   simp only at kD G6
   have Hm:=Qzg ((s.data.toList.drop j).take bn) (l,c) Ks mw
   have Hk:((s.data.toList.drop j).take bn).length≤bn:=by simp;omega
   have Gl:=@QRl file f (s.data.toList.drop j) (l,c) toks _ mu
   have gK:=@QWj file f (s.data.toList.drop j) (l,c) toks _ mu
   have H0:=@QTl file f (s.data.toList.drop j) (l,c) toks _ mu
   have H7:=@QUl file f (s.data.toList.drop j) (l,c) toks _ mu
   have H8:=@QZn file f (s.data.toList.drop j) (l,c) toks _ mu
   simp only at Gl gK H0 H7 H8 Hm
   rw[List.drop_drop]at H0 H7 H8
   rw[hE]at Gl gK H0 H7 H8
   generalize adv ((s.data.toList.drop j).take bn) (l,c)=p1 at kD Hm Gl gK H0 H7 H8
   obtain⟨l1,c1⟩:=p1
   simp only at kD Hm Gl gK H0 H7 H8
   obtain⟨k1,k2,k3,k4⟩:=Hm
   have k3':l1≤(j+bn:Nat)+1:=by omega
   have k4':c1≤(j+bn:Nat)+1:=by omega
   clear hE k3 k4 Hk mu
   generalize Gf:j+bn=j2 at kD G6 H0 H7 H8 k3' k4'
   have sn:j≤j2:=by omega
   clear Gf
   have HC:=hid Gl;clear Gl
   have fO:=hid gK;clear gK
   have cO:=hid H0;clear H0
   have fP:=hid H7;clear H7
   have fQ:=hid H8;clear H8
   have n9:=hid kD;clear kD
   obtain⟨ao,cap,rfl⟩:=Qrc Hl
   go_wp2_with fail
   refine n9.out.mono ?_
   rintro e w1 ⟨rfl,G1,gZ⟩
   have KO:=hP.keeps gZ (by omega)
   have He:Below w.heap.size w w1:=gq.trans (gZ.below gq.size (by intro i hi;omega))
   have gw:=Qba Hl gZ (by intro g hg;have:=(Hl.lt g hg).1;omega)
   have gW:=gZ.size
   have lF:=G1.lt
   have gz:=QSd G1
   obtain⟨q0,q1,q2,q3,q4,q5⟩:=tri KO
   obtain⟨r0,r1,r2,r3,r4,r5,r6,r7,r8,r9⟩:=QSd G1
   clear gz
   cases bx with
   | true=>
    have hR:=hid (HC.out rfl)
    go_wp2_with fail
    go_region
    go_wp2_with fail
    exact bodyPost_ret (v:=.tuple #[.slice none 0 0,.agg #[.int .i64 file,.int .i64 l1,.int .i64 c1],.int .i64 21]) (by simp[results,Tryz.results27,go_sem,q0,q1,q2]) rfl ⟨_,by rw[hR.out];rfl,by rw[hR.out];exact World.ownsRow_nil _ _ _ _,(((He.setCell (Nat.le_refl _) _).setCell (Nat.le_refl _) _).setCell (Nat.le_refl _) _).drew⟩
   | false=>
    by_cases h6:toks.length=6000
    ·have h6':((toks.length:Int) == 6000)=true:=by simp[h6]
     have hR:=hid (fO.out rfl h6)
     clear h6
     go_wp2_with fail
     go_region
     go_wp2_with fail
     exact bodyPost_ret (v:=.tuple #[.slice none 0 0,.agg #[.int .i64 file,.int .i64 l1,.int .i64 c1],.int .i64 3]) (by simp[results,Tryz.results27,go_sem,q0,q1,q2]) rfl ⟨_,by rw[hR.out];rfl,by rw[hR.out];exact World.ownsRow_nil _ _ _ _,(((He.setCell (Nat.le_refl _) _).setCell (Nat.le_refl _) _).setCell (Nat.le_refl _) _).drew⟩
    ·have h6':((toks.length:Int) == 6000)=false:=by simp;omega
     have tE:toks.length<6000:=by omega
     have H6:=hid h6;clear h6
     have G5:=fun wx hh=>QWg s j2 file l1 c1 (w.heap.size+1) wx hh G6 (by unfold maxLen;omega)
     by_cases kv:j2=s.size
     ·have hR:=hid (cO.out rfl H6.out (Q9a s j2 (by omega)))
      subst kv
      have he:s.extract s.size s.size=ByteArray.empty:=QMd _ (by simp)
      rw[he]at G5
      have jO:=hid G5;clear G5 he
      go_wp2_with fail
      refine(jO.out _ G1).mono ?_
      rintro e w2 ⟨rfl,nd,rfl⟩
      obtain⟨i0,hi,GL,GM,GN⟩:=info_parts Qch
      go_wp2_with (at_builtin;refine wpList_append_own _ rfl _ _ 57 rfl (w.heap.size+2) 65 i0 _ 6 56 Tryz.underlying57 hi GL GM GN rfl (by decide) _ _ _ rfl (gw.alloc _) ⟨w1.heap.size,0,none⟩ 1 1 (Qxb file ⟨8,[],0,l1,c1⟩) rfl rfl ?c1 ?c2 ?c3 ?c4 ?c5 ?_)
      case c1=>exact Qlb (w1.drewN nd) _ _ _ rfl _ rfl
      case c2=>exact QKh _ _
      case c3=>unfold maxLen;omega
      case c4=>omega
      case c5=>have:=KO.lt;simp;omega
      intro v' w3 Hp Ha _
      have jh:∀g,(Value.slice ao toks.length cap).ownBlock=some g→w.heap.size+2≤g:=fun g hg=>(gw.lt g hg).1
      have kC:Qca w3 w.heap.size #[.int .i64 0,.int .i64 0,.int .i64 0] 27:=((KO.drewN nd).alloc _).grown Ha (fun e=>by have:=jh _ e;omega)
      have gv:Below w.heap.size w w3:=((below_drewN He nd).alloc (by simpa using He.size) _).grown Ha (by have:=He.size;simp;omega) (fun g hg=>by have:=jh g hg;omega)
      obtain⟨p0,p1,p2,p3,p4,p5⟩:=tri kC
      have gy:w3.ownsRow w.heap.size 65 6 v' (toks.length+1) (Qpb file (toks++[⟨8,[],0,l1,c1⟩])):=by rw[Qfc];exact Qef Hp (by omega)
      have eC:∀g,v'.ownBlock=some g→¬g=w.heap.size:=fun g hg=>by have:=(Hp.lt g hg).1;omega
      clear Hp Ha
      obtain⟨ao',cap',rfl⟩:=Qrc gy
      go_wp2_with fail
      exact bodyPost_ret (v:=.tuple #[.slice ao' (toks.length+1) cap',.agg #[.int .i64 0,.int .i64 0,.int .i64 0],.int .i64 0]) (by simp[results,Tryz.results27,go_sem,p0,p1,p2]) rfl ⟨_,by rw[hR.out];rfl,by
       rw[hR.out]
       simp only[List.length_append,List.length_singleton]
       exact Qba gy ((((Qaa.refl (fun i=>i=w.heap.size) w3).setCell (.inr rfl) _).setCell (.inr rfl) _).setCell (.inr rfl) _) eC,
       ((gv.setCell (Nat.le_refl _) _).setCell (Nat.le_refl _) _).setCell (Nat.le_refl _) _⟩
     ·have Gf:j2<s.size:=by omega
      have jh:=QAb s j2
      have Ge:(s.extract j2 s.size).size=s.size-j2:=by simp
      have eh:s.data.toList.drop j2≠[]:=by rw[Qxa s j2 Gf];simp
      have G2:=fun wx=>QMk (s.extract j2 s.size) wx (by omega) (by omega)
      unfold QKc at G2
      rw[jh]at G2
      have Gm:=QLg (s.data.toList.drop j2) eh
      have aH:=fun n hn wx hh=>Q0g s j2 n file l1 c1 (w.heap.size+1) wx hh hn (by omega) k1 k3' k2 k4'
      have mn:=hid (fun h=>fP.out rfl H6.out eh rfl h)
      have mo:=hid (fun h=>fQ.out rfl H6.out eh rfl h)
      clear fP fQ cO fO HC
      simp only[List.length_drop]at Gm
      generalize Qya (s.data.toList.drop j2)=T at G2 Gm mn mo
      generalize s.extract j2 s.size=r at G5 Ge G2
      have mY:0<r.size:=by omega
      have Hq:=QIc r mY
      have Je:=Qvb r mY
      obtain⟨tk,tn,te⟩:=T
      simp only at G2 Gm mn mo
      have jO:=hid G5;clear G5
      have gP:=hid G2;clear G2
      have q8:=hid Ge;clear Ge
      have dj:=hid aH;clear aH
      clear kv jh
      by_cases hte:te=0
      ·subst hte
       obtain⟨t1,t2⟩:=Gm rfl
       have t2':j2+tn≤s.size:=by rw[Q3d]at t2;omega
       have hR:=hid (mo.out rfl)
       clear mn mo Gm t2
       go_wp2_with fail
       refine(jO.out _ G1).mono ?_
       rintro e w2 ⟨rfl,nd,rfl⟩
       go_wp2_with fail
       refine(jO.out _ (G1.drewN nd)).mono ?_
       rintro e w2 ⟨rfl,nd2,rfl⟩
       go_wp2_with fail
       refine(gP.out _).mono ?_
       rintro e w2 ⟨rfl,KJ⟩
       have Jb:Below w1.heap.size w1 w2:=⟨KJ.os,KJ.tape,KJ.output,KJ.size,KJ.block⟩
       unfold Qbb
       have MK:Qaa (fun _=>False) w1 w2:=Qaa.of_fresh Jb _
       have GX:=G1.keeps MK (fun e=>e)
       have GU:=KO.keeps MK (fun e=>e)
       have gy:=Qba gw MK (fun _ _ e=>e)
       have Hn:Below w.heap.size w w2:=He.trans (Jb.mono He.size)
       have gE:=MK.size
       clear KJ r0 r1 r2 r3 r4 r5 r6 r7 r8 r9
       obtain⟨r0,r1,r2,r3,r4,r5,r6,r7,r8,r9⟩:=QSd GX
       have ki:=GX.lt
       obtain⟨i0,hi,GL,GM,GN⟩:=info_parts Qch
       go_wp2_with (at_builtin;refine wpList_append_own _ rfl _ _ 57 rfl (w.heap.size+2) 65 i0 _ 6 56 Tryz.underlying57 hi GL GM GN rfl (by decide) _ _ _ rfl ((gy.alloc _).alloc _) ⟨w2.heap.size+1,0,none⟩ 1 1 (Qxb file { tk with line:=l1,col:=c1 }) rfl rfl ?c1 ?c2 ?c3 ?c4 ?c5 ?_)
       case c1=>exact Qlb _ _ _ _ (by simp) _ rfl
       case c2=>exact QKh _ _
       case c3=>unfold maxLen;omega
       case c4=>omega
       case c5=>have:=KO.lt;have:=Hn.size;simp;omega
       intro v' w3 Hp Ha _
       have jh:∀g,(Value.slice ao toks.length cap).ownBlock=some g→w.heap.size+2≤g:=fun g hg=>(gw.lt g hg).1
       have kC:Qca w3 w.heap.size #[.int .i64 0,.int .i64 0,.int .i64 0] 27:=((GU.alloc _).alloc _).grown Ha (fun e=>by have:=jh _ e;omega)
       have ky:Qca w3 (w.heap.size+1) (QRb s j2 file l1 c1) 98:=((GX.alloc _).alloc _).grown Ha (fun e=>by have:=jh _ e;omega)
       have gv:Below w.heap.size w w3:=((Hn.alloc Hn.size _).alloc (by have:=Hn.size;simp;omega) _).grown Ha (by have:=Hn.size;simp;omega) (fun g hg=>by have:=jh g hg;omega)
       have Kv:w3.ownsRow (w.heap.size+2) 65 6 v' (toks.length+1) (Qpb file (toks++[{ tk with line:=l1,col:=c1 }])):=by rw[Qfc];exact Hp
       have eC:∀g,v'.ownBlock=some g→¬g=w.heap.size+1:=fun g hg=>by have:=(Hp.lt g hg).1;omega
       clear Hp Ha
       have bK:=ky.lt
       clear r0 r1 r2 r3 r4 r5 r6 r7 r8 r9
       go_wp2_with fail
       refine(dj.out tn t2' _ ky).mono ?_
       rintro e w4 ⟨rfl,KY,Gn⟩
       have jd:=kC.keeps Gn (by omega)
       have Kb:Below w.heap.size w w4:=gv.trans (Gn.below gv.size (by intro i hi;omega))
       have g8:=Qba Kv Gn eC
       go_wp2_with fail
       go_roundg f
       case measure=>omega
       case rel=>
        have Hm:=Qzg ((s.data.toList.drop j2).take tn) (l1,c1) k1 k2
        have kV:((s.data.toList.drop j2).take tn).length≤tn:=by simp;omega
        have KZ:=hR.out.symm
        rw[List.drop_drop]at KZ
        exact⟨j2+tn,_,_,toks++[{ tk with line:=l1,col:=c1 }],t2',by omega,Hm.1,by simp at Hm;omega,Hm.2.1,by simp at Hm;omega,KZ,by simp;omega,by simpa using g8,KY,jd,Kb⟩
      ·have hR:=hid (mn.out hte)
       have qy:(te != 0)=true:=by simpa using hte
       clear mn mo Gm hte
       go_wp2_with fail
       refine(jO.out _ G1).mono ?_
       rintro e w2 ⟨rfl,nd,rfl⟩
       go_wp2_with fail
       refine(jO.out _ (G1.drewN nd)).mono ?_
       rintro e w2 ⟨rfl,nd2,rfl⟩
       go_wp2_with fail
       refine(gP.out _).mono ?_
       rintro e w2 ⟨rfl,KJ⟩
       have Jb:Below w1.heap.size w1 w2:=⟨KJ.os,KJ.tape,KJ.output,KJ.size,KJ.block⟩
       unfold Qbb
       have MK:Qaa (fun _=>False) w1 w2:=Qaa.of_fresh Jb _
       have GX:=G1.keeps MK (fun e=>e)
       have GU:=KO.keeps MK (fun e=>e)
       have Hn:Below w.heap.size w w2:=He.trans (Jb.mono He.size)
       have gE:=MK.size
       clear KJ r0 r1 r2 r3 r4 r5 r6 r7 r8 r9 q0 q1 q2 q3 q4 q5
       obtain⟨q0,q1,q2,q3,q4,q5⟩:=tri GU
       obtain⟨r0,r1,r2,r3,r4,r5,r6,r7,r8,r9⟩:=QSd GX
       have ki:=GX.lt
       have eA:=GU.lt
       go_wp2_with fail
       go_region
       go_wp2_with fail
       exact bodyPost_ret (v:=.tuple #[.slice none 0 0,.agg #[.int .i64 file,.int .i64 l1,.int .i64 c1],.int .i64 te]) (by simp[results,Tryz.results27,go_sem,q0,q1,q2,eA]) rfl ⟨_,by rw[hR.out];rfl,by rw[hR.out];exact World.ownsRow_nil _ _ _ _,((((Hn.setCell (Nat.le_refl _) _).setCell (Nat.le_refl _) _).setCell (Nat.le_refl _) _).alloc (by simpa using Hn.size) _).drew⟩
theorem Qap{w:World}{base:Nat}{T:TypeId}{v:Value}{file:Int}{toks:List Tok}(h:w.ownsRow base T 6 v toks.length (Qpb file toks))(Hq:toks≠[]) :
 ∃g cap,v = .slice (some ⟨g,0,none⟩) toks.length cap∧base≤g∧g<w.heap.size∧toks.length≤cap∧∀(i:Nat) (t:Tok),toks[i]? = some t→∀(k:Nat) (u:Value),(Qxb file t)[k]? = some u→w.cell? ⟨g,6*i+k,none⟩=some u:=by
 have Ga:=List.length_pos_iff.2 Hq
 rcases h.2 with⟨_,h0⟩|⟨g,cap,cur,rfl,hb,hh,hcap,hr⟩
 ·omega
 ·refine⟨g,cap,rfl,hb,lt_of_block hh,hcap,?_⟩
  intro i t ht k u hu
  have hc:=h.cells (g:=g) rfl (6*i+k) u
  have mU:(⟨g,0,none⟩:Addr).add (6*i+k)=⟨g,6*i+k,none⟩:=by unfold Addr.add;split <;> simp_all
  rw[mU]at hc
  apply hc
  have hk:k<6:=by
   rcases Nat.lt_or_ge k 6 with h|h
   ·exact h
   ·rw[List.getElem?_eq_none (by simpa[Qxb]using h)]at hu;cases hu
  clear hc hcap hr hh hb h Ga mU Hq
  unfold Qpb
  induction toks generalizing i with
  | nil=>simp at ht
  | cons a l ih=>
   rw[List.flatMap_cons]
   cases i with
   | zero=>
    simp at ht;subst ht
    rw[List.getElem?_append_left (by simp[Qxb];omega)]
    simpa using hu
   | succ i=>
    rw[List.getElem?_append_right (by simp[Qxb];omega)]
    have:=ih i (by simpa using ht)
    rw[←this];congr 1;simp[Qxb];omega
def Qtb(cs:List Qzb):List Value:=cs.flatMap fun c=>[.int .i64 c.value,.string c.label]
def Qza:List QRa→List Value→List Value
 | p::ps,v::vs=>.int .i64 p.kind::v :: .string p.text::Qza ps vs
 | _,_=>[]
def QFb(file:Int):List Qra→List Value→List Value
 | d::ds,v::vs=>.int .i64 d.kind :: .string d.label :: .string d.name::v :: .int .i64 file :: .int .i64 d.line :: .int .i64 d.col::QFb file ds vs
 | _,_=>[]
theorem QYc(cs:List Qzb)(c:Qzb):Qtb (cs++[c])=Qtb cs++[.int .i64 c.value,.string c.label]:=by simp[Qtb]
theorem Q0c:∀(ps:List QRa) (vs:List Value) (p:QRa) (v:Value),vs.length=ps.length→Qza (ps++[p]) (vs++[v])=Qza ps vs++[.int .i64 p.kind,v,.string p.text]
 | [],[],_,_,_=>rfl
 | q::ps,u::vs,p,v,h=>by simp only[Qza,List.cons_append];rw[Q0c ps vs p v (by simpa using h)]
theorem Qgd(file:Int):∀(ds:List Qra) (vs:List Value) (d:Qra) (v:Value),vs.length=ds.length→
 QFb file (ds++[d]) (vs++[v])=QFb file ds vs++[.int .i64 d.kind,.string d.label,.string d.name,v,.int .i64 file,.int .i64 d.line,.int .i64 d.col]
 | [],[],_,_,_=>rfl
 | e::ds,u::vs,d,v,h=>by simp only[QFb,List.cons_append];rw[Qgd file ds vs d v (by simpa using h)]
def Qea(w:World)(base:Nat)(v:Value)(cs:List Qzb):Prop:=w.ownsRow base 72 2 v cs.length (Qtb cs)
def Qia(w:World)(base:Nat)(v:Value)(ps:List QRa):Prop:=
 ∃vs:List Value,vs.length=ps.length∧w.ownsRow base 75 3 v ps.length (Qza ps vs)∧∀k (h:k<ps.length) (h2:k<vs.length),Qea w base vs[k] ps[k].cells
def Q0a(w:World)(base:Nat)(file:Int)(v:Value)(D:List Qra):Prop:=
 ∃vs:List Value,vs.length=D.length∧w.ownsRow base 34 7 v D.length (QFb file D vs)∧∀k (h:k<D.length) (h2:k<vs.length),Qia w base vs[k] D[k].parts
section
variable{w w':World}{base:Nat}{file:Int}{v:Value}{cs:List Qzb}{ps:List QRa}{D:List Qra}
theorem Q0a.slice(h:Q0a w base file v D):∃a c,v = .slice a D.length c:=by obtain⟨_,_,h,_⟩:=h;exact Qma h
theorem Qia.slice(h:Qia w base v ps):∃a c,v = .slice a ps.length c:=by obtain⟨_,_,h,_⟩:=h;exact Qma h
theorem Qea.slice(h:Qea w base v cs):∃a c,v = .slice a cs.length c:=Qma h
theorem Qea.none(w:World)(base:Nat):Qea w base (.slice none 0 0) []:=⟨rfl,.inl ⟨rfl,rfl⟩⟩
theorem Qia.none(w:World)(base:Nat):Qia w base (.slice none 0 0) []:=⟨[],rfl,⟨rfl,.inl ⟨rfl,rfl⟩⟩,fun _ h=>by cases h⟩
theorem Q0a.none(w:World)(base:Nat)(file:Int):Q0a w base file (.slice none 0 0) []:=⟨[],rfl,⟨rfl,.inl ⟨rfl,rfl⟩⟩,fun _ h=>by cases h⟩
def QNa(w:World)(S:Nat→Prop):Prop:=∀b,b<w.heap.size→S b→∃xs t,Qca w b xs t∧t≠72∧t≠75∧t≠34
theorem Qva{e:TypeId}{size n b:Nat}{xs:List Value}(h:w.ownsRow base e size v n xs)(hb:v.ownBlock=some b):b<w.heap.size∧base≤b∧∃cur,Qca w b cur e:=by
 rcases h.2 with⟨rfl,_⟩|⟨g,cap,cur,rfl,hg,hh,_⟩
 ·simp[Value.ownBlock]at hb
 ·obtain rfl:g=b:=Option.some.inj hb
  exact⟨lt_of_block hh,hg,_,hh⟩
theorem Q8c{S:Nat→Prop}{e:TypeId}{size n:Nat}{xs:List Value}(h:w.ownsRow base e size v n xs)(ha:QNa w S)(he:e=72∨e=75∨e=34):∀g,v.ownBlock=some g→¬S g:=by
 intro g hg hS
 obtain⟨h1,_,cur,h2⟩:=Qva h hg
 obtain⟨xs,t,h3,n1,n2,n3⟩:=ha g h1 hS
 have h4:w.heap[g]? = some (.cells xs t (0,0)):=h3
 have h5:w.heap[g]? = some (.cells cur e (0,0)):=h2
 rw[h4]at h5
 cases h5
 rcases he with rfl|rfl|rfl
 ·exact n1 rfl
 ·exact n2 rfl
 ·exact n3 rfl
theorem Qea.keeps{S:Nat→Prop}(h:Qea w base v cs)(k:Qaa S w w')(ha:QNa w S):Qea w' base v cs:=Qba h k (Q8c h ha (.inl rfl))
theorem Qia.keeps{S:Nat→Prop}(h:Qia w base v ps)(k:Qaa S w w')(ha:QNa w S):Qia w' base v ps:=by
 obtain⟨vs,h1,h2,h3⟩:=h
 exact⟨vs,h1,Qba h2 k (Q8c h2 ha (.inr (.inl rfl))),fun j h h'=>(h3 j h h').keeps k ha⟩
theorem Q0a.keeps{S:Nat→Prop}(h:Q0a w base file v D)(k:Qaa S w w')(ha:QNa w S):Q0a w' base file v D:=by
 obtain⟨vs,h1,h2,h3⟩:=h
 exact⟨vs,h1,Qba h2 k (Q8c h2 ha (.inr (.inr rfl))),fun j h h'=>(h3 j h h').keeps k ha⟩
theorem QNa.one{b:Nat}{xs:Array Value}{t:TypeId}(h:Qca w b xs t)(h1:t≠72)(h2:t≠75)(h3:t≠34):QNa w (· = b):=fun _ _ e=>by cases e;exact⟨_,_,h,h1,h2,h3⟩
theorem QNa.nil(w:World):QNa w (fun _=>False):=fun _ _ e=>e.elim
theorem Qea.lower{b2:Nat}(h:Qea w base v cs)(hb:b2≤base):Qea w b2 v cs:=Qpd h hb
theorem Qia.lower{b2:Nat}(h:Qia w base v ps)(hb:b2≤base):Qia w b2 v ps:=by
 obtain⟨vs,h1,h2,h3⟩:=h
 exact⟨vs,h1,Qpd h2 hb,fun j h h'=>(h3 j h h').lower hb⟩
end
def QQe(B:Nat)(w:World)(v:Value)(file:Int)(L:List Tok):Prop:=
 ∃g cap,v = .slice (some ⟨g,0,none⟩) L.length cap∧g<B∧∀(i:Nat) (h:i<L.length) (k:Nat) (u:Value),(Qxb file L[i])[k]? = some u→w.cell? ⟨g,6*i+k,none⟩=some u
theorem QQe.keeps{B:Nat}{w w':World}{v:Value}{file:Int}{L:List Tok}{S:Nat→Prop}(h:QQe B w v file L)(k:Qaa S w w')(hs:∀b,S b→B≤b):QQe B w' v file L:=by
 obtain⟨g,cap,e,hg,hc⟩:=h
 refine⟨g,cap,e,hg,fun i hi j u hu=>?_⟩
 have c:=hc i hi j u hu
 exact(k.cell (p:=⟨g,6*i+j,none⟩) (World.block_lt_of_cell? w _ c) (fun e=>by have:=hs g e;omega)).trans c
structure LOk(L:List Tok):Prop where
 len:L.length≤6001
 text:∀t∈L,t.text.length≤16000
 last:∃ts t,L=ts++[t]∧t.kind=8
theorem LOk.next{L:List Tok}(h:LOk L){i:Nat}(hi:i<L.length)(hk:(tkN L i).kind≠8):i+1<L.length:=by
 obtain⟨ts,t,rfl,h8⟩:=h.last
 simp only[List.length_append,List.length_cons,List.length_nil]at hi ⊢
 rcases Nat.lt_or_ge i ts.length with c|c
 ·omega
 ·exfalso
  apply hk
  obtain rfl:i=ts.length:=by omega
  unfold tkN
  rw[List.getD_eq_getElem?_getD,List.getElem?_append_right (Nat.le_refl _)]
  simpa using h8
structure QTa(w:World)(r base:Nat)(file:Int)(L:List Tok)(lv ov:Value)(i:Nat)(D:List Qra):Prop where
 holds:Qca w r #[lv,.int .i64 i,ov,.pointer none] 63
 toks:QQe base w lv file L
 defs:Q0a w base file ov D
 low:base≤r
 size:base≤w.heap.size
 lt:i<L.length
 ok:LOk L
 cnt:D.length≤i
def QQk(w:World)(r base:Nat)(file:Int)(lv x ov fp:Value)(D:List Qra):Prop:=
 Qca w r #[lv,x,ov,fp] 63∧Q0a w base file ov D∧base≤r∧base≤w.heap.size
theorem QTa.raw{w:World}{r base:Nat}{file:Int}{L:List Tok}{lv ov:Value}{i:Nat}{D:List Qra}(h:QTa w r base file L lv ov i D):QQk w r base file lv (.int .i64 i) ov (.pointer none) D:=⟨h.holds,h.defs,h.low,h.size⟩
def Qib(w:World)(r:Nat)(file:Int)(L:List Tok)(lv ov:Value)(k:Nat)(c:Int):Prop:=
 ∃x f,Qca w r #[lv,x,ov,.pointer (some ⟨f,0,none⟩)] 63∧Qca w f #[.int .i64 file,.int .i64 (tkN L k).line,.int .i64 (tkN L k).col,.int .i64 c] 68
theorem QSc{w:World}{a b:Nat}{xs ys:Array Value}{s t:TypeId}(h:Qca w a xs s)(k:Qca w b ys t)(Hq:s≠t):a≠b:=by
 rintro rfl
 have h1:w.heap[a]? = some (.cells xs s (0,0)):=h
 have h2:w.heap[a]? = some (.cells ys t (0,0)):=k
 rw[h1]at h2
 cases h2
 exact Hq rfl
theorem Qib.keeps{w w':World}{r:Nat}{file:Int}{L:List Tok}{lv ov:Value}{k:Nat}{c:Int}{S:Nat→Prop}(h:Qib w r file L lv ov k c)(K:Qaa S w w')(hs:∀b,S b→∃xs t,Qca w b xs t∧t≠63∧t≠68):Qib w' r file L lv ov k c:=by
 obtain⟨x,f,h1,h2⟩:=h
 refine⟨x,f,h1.keeps K (fun e=>?_),h2.keeps K (fun e=>?_)⟩
 ·obtain⟨xs,t,h3,n1,_⟩:=hs r e
  exact QSc h3 h1 n1 rfl
 ·obtain⟨xs,t,h3,_,n2⟩:=hs f e
  exact QSc h3 h2 n2 rfl
theorem Qib.one{w w':World}{r B:Nat}{file:Int}{L:List Tok}{lv ov:Value}{k:Nat}{c:Int}{xs:Array Value}{t:TypeId}(h:Qib w r file L lv ov k c)(hB:Qca w B xs t)(n1:t≠63)(n2:t≠68)(K:Qaa (· = B) w w'):Qib w' r file L lv ov k c:=
 h.keeps K (fun b e=>by cases e;exact⟨xs,t,hB,n1,n2⟩)
theorem Qib.new{w w':World}{r:Nat}{file:Int}{L:List Tok}{lv ov:Value}{k:Nat}{c:Int}(h:Qib w r file L lv ov k c)(K:Qaa (fun _=>False) w w'):Qib w' r file L lv ov k c:=h.keeps K (fun _ e=>e.elim)
theorem Qfk{w:World}{base:Nat}{v:Value}{acc:List UInt8}(h:w.ownsRow base 5 1 v acc.length (Lib.byteCells acc)) :
 (convert 76 9 v).run Tryz.prog w = .ok (.string ⟨acc.toArray⟩) w:=by
 rcases h.2 with⟨rfl,h0⟩|⟨g,cap,cur,rfl,hb,hh,hcap,hr⟩
 ·have:acc=[]:=List.eq_nil_of_length_eq_zero h0
  subst this
  exact run_convert_bytes_nil w _ _ Tryz.underlying76 Tryz.underlying5 0 0 _ Tryz.underlying9
 ·refine run_convert_bytes_back w _ _ _ ⟨g,0,none⟩ cap acc Tryz.underlying76 Tryz.underlying5 Tryz.underlying9 ?_
  intro j hj
  exact h.cells (g:=g) rfl j _ (by simp[Lib.byteCells,hj])
theorem Q8d{w:World}{base:Nat}{e:TypeId}{v:Value}{n:Nat}{xs:List Value}(h:w.ownsRow base e 1 v n xs):∃a cap,v = .slice a n cap:=by
 rcases h.2 with⟨rfl,rfl⟩|⟨g,cap,cur,rfl,_⟩
 ·exact⟨none,0,rfl⟩
 ·exact⟨_,cap,rfl⟩
def QAj(Q:List UInt8 × Nat × Int)(w:World)(e:Ending)(w':World):Prop:=
 e = .returned (.tuple #[.string ⟨Q.1.toArray⟩,.int .i64 Q.2.1,.int .i64 Q.2.2])∧Below w.heap.size w w'
def Qzq(s:ByteArray)(a:Nat)(Q:List UInt8 × Nat × Int)(w:World)(f:Nat)(x y:Value)(wr:World):Prop:=
 ∃(k:Nat) (acc:List UInt8),a+1≤k∧k≤s.size∧s.size≤k+f∧acc.length<k∧y = .int .i64 k∧qtA f (s.data.toList.drop k) acc (k-a)=Q∧
  wr.ownsRow w.heap.size 5 1 x acc.length (Lib.byteCells acc)∧Below w.heap.size w wr
theorem Q8n(s:ByteArray)(k:Nat)(h:k<s.size):k+1+(esc (s.data.toList.drop (k+1))).2.1≤s.size:=by
 have:=(Qbl (s.data.toList.drop (k+1))).2.2.2.1
 simp at this;omega
theorem Qwn(s:ByteArray)(a:Nat)(w:World)(hs:s.size≤140737488355328)(ha:a<s.size) :
 Calls Tryz.prog 103 #[.string s,.int .i64 a] w (QAj (qtA (s.size-a) (s.data.toList.drop (a+1)) [] 1) w):=by
 generalize hQ:qtA (s.size-a) (s.data.toList.drop (a+1)) [] 1=Q
 have HQ:=hid hQ;clear hQ
 go_enter Tryz.func103,Tryz.ntmps103
 go_wp2_with fail
 go_loopg [7,8] (s.size-a) (fun f x y wr=>Qzq s a Q w f x y wr)
 case atStart=>exact⟨a+1,[],by omega,by omega,by omega,by simp,rfl,by rw[show a+1-a=1 from by omega];exact HQ.out,World.ownsRow_nil _ _ _ _,Below.refl _ _⟩
 case round=>
  obtain⟨k,acc,Ht,hk,hf,pE,rfl,hB,Hl,gq⟩:=hrel
  have HB:=hid hB;clear hB
  obtain⟨ao,cap,rfl⟩:=Q8d Hl
  by_cases Hj:k<s.size
  ·obtain⟨f,rfl⟩:∃f',gk=f'+1:=⟨gk-1,by omega⟩
   have k9:Hid (Q=if s[k].toNat=34 then(acc,k-a+1,0)else if s[k].toNat=10 then([],0,21)else if s[k].toNat=92 then
    (if (esc (s.data.toList.drop (k+1))).2.2≠0 then([],0,(esc (s.data.toList.drop (k+1))).2.2)else qtA f ((s.data.toList.drop (k+1)).drop (esc (s.data.toList.drop (k+1))).2.1) (acc++[(esc (s.data.toList.drop (k+1))).1.toNat.toUInt8]) (k-a+(esc (s.data.toList.drop (k+1))).2.1+1))
    else qtA f (s.data.toList.drop (k+1)) (acc++[s[k]]) (k-a+1)):=by
    show _=_
    rw[←HB.out,Qxa s k Hj];rfl
   have kc:=gq.size
   by_cases h34:s[k].toNat=34
   ·have dD:((s[k].toNat:Int) == 34)=true:=by simp[h34]
    have kO:((s[k].toNat:Int) != 10)=true:=by simp[h34]
    have hR:=hid (show Q=(acc,k-a+1,0)from by rw[k9.out,if_pos h34])
    have Jc:=Qfk Hl
    clear h34
    go_wp2_with fail
    go_ret3
    exact⟨by rw[hR.out];simp;omega,gq⟩
   ·have dD:((s[k].toNat:Int) == 34)=false:=by simp;omega
    by_cases gY:s[k].toNat=10
    ·have kO:((s[k].toNat:Int) != 10)=false:=by simp[gY]
     have hR:=hid (show Q=([],0,21)from by rw[k9.out,if_neg h34,if_pos gY])
     clear gY h34
     go_wp2_with fail
     go_ret3
     exact⟨by rw[hR.out];rfl,gq⟩
    ·have kO:((s[k].toNat:Int) != 10)=true:=by simp;omega
     by_cases h92:s[k].toNat=92
     ·have dG:((s[k].toNat:Int) != 92)=false:=by simp[h92]
      have la:=Qbl (s.data.toList.drop (k+1))
      have rX:=Q8n s k Hj
      have kT:=fun wx=>Qzk s k wx hs Hj
      have hR:=hid (show Q=(if (esc (s.data.toList.drop (k+1))).2.2≠0 then([],0,(esc (s.data.toList.drop (k+1))).2.2)else qtA f ((s.data.toList.drop (k+1)).drop (esc (s.data.toList.drop (k+1))).2.1) (acc++[(esc (s.data.toList.drop (k+1))).1.toNat.toUInt8]) (k-a+(esc (s.data.toList.drop (k+1))).2.1+1))from by rw[k9.out,if_neg h34,if_neg gY,if_pos h92])
      clear k9 h92 gY h34
      generalize esc (s.data.toList.drop (k+1))=E at la kT hR rX
      obtain⟨ev,en,ee⟩:=E
      obtain⟨g1,g2,g3,g4,g5,g6,g7⟩:=la
      simp only[List.length_drop]at g1 g2 g3 g4 g5 g6 g7 kT hR rX
      unfold Qnq at kT
      simp only at kT
      clear g4
      by_cases hz:ee=0
      ·subst hz
       have g5':=hid (g5 rfl);clear g5
       simp only[if_true]at kT
       have HS:=hid kT;clear kT
       obtain⟨i0,hi,GL,GM,GN⟩:=info_parts Qah
       go_wp2_with (first | (go_at_call 129;refine(HS.out _).mono ?_;rintro e w1 ⟨rfl,nd,rfl⟩) | (at_builtin;refine wpList_append_own _ rfl _ _ 76 rfl w.heap.size 5 i0 (.int .u8 0) 1 1 Tryz.underlying76 hi GL GM GN rfl (by decide) _ _ _ rfl (by exact World.ownsRow.alloc Hl _) ⟨wr.heap.size,0,none⟩ 1 1 [.int .u8 ev] rfl rfl ?c1 ?c2 ?c3 ?c4 ?c5 ?_))
       case c1=>exact Qlb _ _ _ _ rfl _ rfl
       case c2=>intro u hu;simp at hu;subst hu;rfl
       case c3=>unfold maxLen;omega
       case c4=>omega
       case c5=>simp;omega
       intro v' w3 Hp Ha _
       have gv:Below w.heap.size w w3:=((below_drewN gq nd).alloc (by simpa using kc) _).grown Ha (by simp;omega) (fun g hg=>by have:=(Hl.lt g hg).1;omega)
       rw[Q1d acc ev g1 g2]at Hp
       clear Ha
       obtain⟨ao',cap',rfl⟩:=Q8d Hp
       go_wp2_with fail
       go_roundg f
       case measure=>omega
       case rel=>exact⟨k+(en+1),acc++[ev.toNat.toUInt8],by omega,by omega,by omega,by simp;omega,by go_num,by have:=hR.out;rw[if_neg (by simp),List.drop_drop]at this;rw[this,show k+1+en=k+(en+1)from by omega,show k-a+en+1=k+(en+1)-a from by omega],by simpa using Hp,gv⟩
      ·have hz':(ee != 0)=true:=by simpa using hz
       have HR:=hid (show Q=([],0,ee)from by rw[hR.out,if_pos hz])
       rw[if_neg hz]at kT
       have HS:=hid kT;clear kT
       clear hz g5
       go_wp2_with (first | (go_at_call 129;refine(HS.out _).mono ?_;rintro e w1 ⟨rfl,nd,rfl⟩))
       go_ret3
       exact⟨by rw[HR.out];rfl,below_drewN gq _⟩
     ·have dG:((s[k].toNat:Int) != 92)=true:=by simp;omega
      have hR:=hid (show Q=qtA f (s.data.toList.drop (k+1)) (acc++[s[k]]) (k-a+1)from by rw[k9.out,if_neg h34,if_neg gY,if_neg h92])
      clear k9 h92 gY h34
      obtain⟨i0,hi,GL,GM,GN⟩:=info_parts Qah
      go_wp2_with (at_builtin;refine wpList_append_own _ rfl _ _ 76 rfl w.heap.size 5 i0 (.int .u8 0) 1 1 Tryz.underlying76 hi GL GM GN rfl (by decide) _ _ _ rfl (by exact World.ownsRow.alloc Hl _) ⟨wr.heap.size,0,none⟩ 1 1 [.int .u8 s[k].toNat] rfl rfl ?c1 ?c2 ?c3 ?c4 ?c5 ?_)
      case c1=>exact Qlb _ _ _ _ rfl _ rfl
      case c2=>intro u hu;simp at hu;subst hu;rfl
      case c3=>unfold maxLen;omega
      case c4=>omega
      case c5=>simp;omega
      intro v' w3 Hp Ha _
      have gv:Below w.heap.size w w3:=(gq.alloc kc _).grown Ha (by simp;omega) (fun g hg=>by have:=(Hl.lt g hg).1;omega)
      have gy:w3.ownsRow w.heap.size 5 1 v' (acc.length+1) (Lib.byteCells (acc++[s[k]])):=by simpa[Lib.byteCells]using Hp
      clear Ha Hp
      obtain⟨ao',cap',rfl⟩:=Q8d gy
      go_wp2_with fail
      go_roundg f
      case measure=>omega
      case rel=>exact⟨k+1,acc++[s[k]],by omega,by omega,by omega,by simp;omega,by go_num,by rw[hR.out,show k-a+1=k+1-a from by omega],by simpa using gy,gv⟩
  ·have hR:=hid (show Q=([],0,21)from by rw[←HB.out,Q9a s k (by omega)];cases gk <;> rfl)
   go_wp2_with fail
   go_ret3
   exact⟨by rw[hR.out];rfl,gq⟩
def Qmf(big:Bool)(n:Int):Int:=if big=true then 4294967296 else n
theorem QFo(s:ByteArray)(h:1<s.size)(h0:((s[0]'(by omega)).toNat:Int)=48):Lib.hasPrefix s.data.toList [48,120]=decide ((s[1].toNat:Int)=120):=by
 have e0:=Qxa s 0 (by omega)
 have e1:=Qxa s 1 h
 rw[List.drop_zero]at e0
 rw[e0,e1]
 have h0':s[0]=48:=by apply UInt8.toNat_inj.1;have:s[0].toNat=48:=by omega
                      rw[this];rfl
 rw[h0',Bool.eq_iff_iff]
 simp[Lib.hasPrefix]
 constructor
 ·intro h;rw[←h];rfl
 ·intro h;symm;apply UInt8.toNat_inj.1;have:s[1].toNat=120:=by omega
  rw[this];rfl
theorem QOg(s:ByteArray)(h:¬1<s.size∨∃h:0<s.size,((s[0]'h).toNat:Int)≠48):Lib.hasPrefix s.data.toList [48,120]=false:=by
 rw[Bool.eq_false_iff]
 intro hp
 have bJ:2≤s.size:=by simpa using Lib.hasPrefix_le hp
 rcases h with h|⟨h1,h⟩
 ·omega
 ·apply h
  have e0:=Qxa s 0 (by omega)
  rw[List.drop_zero]at e0
  rw[e0]at hp
  simp[Lib.hasPrefix]at hp
  rw[←hp.1];rfl
theorem QKm(w:World)(a b:Nat):∃n,(w.drewN a).drewN b=w.drewN n:=⟨a+b,by rw[World.drewN_drewN]⟩
theorem QAk(s:ByteArray)(w:World)(hs:s.size≤maxLen) :
 Calls Tryz.prog 102 #[.string s] w fun e w'=>e = .returned (.tuple #[.int .i64 (Q5d s.data.toList).1,.int .i64 (Q5d s.data.toList).2])∧∃n,w'=w.drewN n:=by
 unfold maxLen at hs
 go_enter Tryz.func102,Tryz.ntmps102
 have Hm:=QZf s.data.toList
 have kV:=Qdf s.data.toList
 generalize hnp:Qfb s.data.toList=np at Hm kV
 have JJ:=hid hnp;clear hnp
 obtain⟨base,dl⟩:=np
 obtain⟨He,Hn⟩:=Hm
 simp only at He Hn kV
 have gO:(∃h1:1<s.size,((s[0].toNat:Int) == 48)=true∧((s[1].toNat:Int) == 120)=true∧Hid (dl=s.data.toList.drop 2)∧Hid (base=16))∨
  (∃h1:1<s.size,((s[0].toNat:Int) == 48)=true∧((s[1].toNat:Int) == 120)=false∧Hid (dl=s.data.toList.drop 1)∧Hid (base=8))∨
  (∃h1:1<s.size,((s[0].toNat:Int) == 48)=false∧Hid (dl=s.data.toList)∧Hid (base=10))∨(¬1<s.size∧Hid (dl=s.data.toList)∧Hid (base=10)):=by
  by_cases h1:1<s.size
  ·have hH:=Q9b s (by omega)
   by_cases h48:(s[0].toNat:Int)=48
   ·have hx:=QFo s h1 h48
    by_cases h120:(s[1].toNat:Int)=120
    ·have e:=(QTn (by rw[hx];simpa using h120)).symm.trans JJ.out
     obtain⟨e1,e2⟩:=Prod.mk.inj e
     exact .inl ⟨h1,by simpa using h48,by simpa using h120,e2.symm,e1.symm⟩
    ·have e:=(QUn (by rw[hx];simpa using h120) (by simpa using h1) (by rw[hH];exact h48)).symm.trans JJ.out
     obtain⟨e1,e2⟩:=Prod.mk.inj e
     exact .inr (.inl ⟨h1,by simpa using h48,by simpa using h120,e2.symm,e1.symm⟩)
   ·have e:=(QPj (QOg s (.inr ⟨by omega,h48⟩)) (.inr (by rw[hH];exact h48))).symm.trans JJ.out
    obtain⟨e1,e2⟩:=Prod.mk.inj e
    exact .inr (.inr (.inl ⟨h1,by simpa using h48,e2.symm,e1.symm⟩))
  ·have e:=(QPj (QOg s (.inl h1)) (.inl (by simpa using h1))).symm.trans JJ.out
   obtain⟨e1,e2⟩:=Prod.mk.inj e
   exact .inr (.inr (.inr ⟨h1,e2.symm,e1.symm⟩))
 rcases gO with⟨h1,h48,h120,J7,Mz⟩|⟨h1,h48,h120,J7,Mz⟩|⟨h1,h48,J7,Mz⟩|⟨h1,J7,Mz⟩
 all_goals
  go_upto_if 18 with fail
  go_cut [4,5] (fun b d wx=>∃dg:ByteArray,b = .int .i64 base∧d = .string dg∧Hid (dg.data.toList=dl)∧∃n,wx=w.drewN n)
 case first=>
  go_wp2_with fail
  go_quiet (fail)
  go_wp2
  go_quiet (fail)
  go_wp2
  go_meet
  case rel=>exact⟨_,by rw[Mz.out],rfl,by rw[J7.out];exact QAb s 2,QKm _ _ _⟩
 case first=>
  go_wp2_with fail
  go_quiet (fail)
  go_wp2
  go_meet
  case rel=>exact⟨_,by rw[Mz.out],rfl,by rw[J7.out];exact QAb s 1,_,rfl⟩
 case first=>
  go_wp2_with fail
  go_meet
  case rel=>exact⟨_,by rw[Mz.out],rfl,by rw[J7.out];rfl,0,rfl⟩
 case first=>
  go_wp2_with fail
  go_meet
  case rel=>exact⟨_,by rw[Mz.out],rfl,by rw[J7.out];rfl,0,rfl⟩
 all_goals
  obtain⟨dg,rfl,rfl,bC,n0,rfl⟩:=hcut
  have hT:=hid (show Q5d s.data.toList=if dl=[]then(0,6)else QTk (QYa base dl 0)from by unfold Q5d;rw[JJ.out])
  have Ga:dg.size=dl.length:=by rw[←bC.out];simp
  have uf:dg.size≤9223372036854775807:=by rw[Ga];simp at kV;omega
  have HL:=hid Ga;clear Ga
  by_cases h0:dg.size=0
  ·obtain rfl:=QMd dg h0
   have hF:=hid (show Q5d s.data.toList=(0,6)from by rw[hT.out,if_pos];rw[←bC.out];rfl)
   clear h0
   go_wp2_with fail
   go_ret2
   exact⟨by rw[hF.out];rfl,_,rfl⟩
  ·have h0:0<dg.size:=by omega
   have Hq:=QIc dg h0
   have Je:=Qvb dg h0
   have hz:((dg.size:Int) == 0)=false:=by rw[beq_eq_false_iff_ne];omega
   have gX:=hid (show Q5d s.data.toList=QTk (QYa base dg.data.toList 0)from by rw[hT.out,bC.out,if_neg];intro e;have:=HL.out;subst e;simp only[List.length_nil]at this;omega)
   go_wp2_with fail
   go_loopg [6,7,8] (dg.size) (fun f x y i wr=>∃k:Nat,∃n:Int,∃big:Bool,k≤dg.size∧dg.size≤k+f∧i = .int .i64 k∧y = .bool big∧x = .int .i64 n∧0≤n∧n≤4294967295∧Hid (QYa base dg.data.toList 0=QYa base (dg.data.toList.drop k) (Qmf big n))∧wr=w.drewN n0)
   case atStart=>exact⟨0,0,false,Nat.zero_le _,by omega,rfl,rfl,rfl,by omega,by omega,rfl,rfl⟩
   case round=>
    obtain⟨k,n,big,hk,hf,rfl,rfl,rfl,MN,eB,hE,rfl⟩:=hrel
    by_cases Hj:k<dg.size
    ·have k9:=hid (show QYa base dg.data.toList 0=if Qjc dg[k].toNat<0∨base≤Qjc dg[k].toNat then none else QYa base (dg.data.toList.drop (k+1)) (min (Qmf big n*base+Qjc dg[k].toNat) 4294967296)from by rw[hE.out,Qxa dg k Hj];rfl)
     have Hm:=QVe dg[k].toNat
     have uu:0≤n*base:=Int.mul_nonneg MN (by omega)
     have qa:n*base≤4294967295*16:=Int.mul_le_mul eB Hn (by omega) (by omega)
     by_cases hg:Qjc dg[k].toNat<0∨base≤Qjc dg[k].toNat
     ·have hF:=hid (show Q5d s.data.toList=(0,6)from by rw[gX.out,k9.out,if_pos hg];rfl)
      have MM:base≤QOf dg[k].toNat:=by unfold QOf;split <;> omega
      have Jd:QOf dg[k].toNat≤99:=by unfold QOf;split <;> omega
      clear hg Hm
      have K0:=fun wx=>Qag dg[k].toNat wx (by omega) (QLb _)
      generalize QOf dg[k].toNat=dv at MM Jd K0
      go_wp2_with (first | (go_at_call 128;refine(K0 _).mono ?_;rintro e w' ⟨rfl,rfl⟩))
      go_ret2
      exact⟨by rw[hF.out];rfl,_,rfl⟩
     ·have nC:=hid (show QOf dg[k].toNat=Qjc dg[k].toNat from by unfold QOf;rw[if_neg (by omega)])
      have iD:=hid (show QYa base dg.data.toList 0=QYa base (dg.data.toList.drop (k+1)) (min (Qmf big n*base+QOf dg[k].toNat) 4294967296)from by rw[k9.out,if_neg hg,nC.out])
      have lp:QOf dg[k].toNat<base:=by rw[nC.out];omega
      have pP:0≤QOf dg[k].toNat:=by rw[nC.out];omega
      have K0:=fun wx=>Qag dg[k].toNat wx (by omega) (QLb _)
      clear hg Hm nC k9
      have ug:QOf dg[k].toNat≤15:=by omega
      generalize QOf dg[k].toNat=dv at iD lp pP K0 ug
      have qu:=hid (show 4294967295<n*base+dv→min (Qmf big n*base+dv) 4294967296=Qmf true 0 from by intro h;unfold Qmf;cases big <;> simp <;> omega)
      have Jh:=hid (show n*base+dv≤4294967295→min (Qmf big n*base+dv) 4294967296=Qmf big (n*base+dv)from by intro h;unfold Qmf;cases big <;> simp <;> omega)
      by_cases hbg:4294967295<n*base+dv
      ·go_wp2_with (first | (go_at_call 128;refine(K0 _).mono ?_;rintro e w' ⟨rfl,rfl⟩))
       go_roundg (gk-1)
       case measure=>omega
       case rel=>exact⟨k+1,_,_,by omega,by omega,by go_num,rfl,rfl,by omega,by omega,by show _=_;rw[iD.out,qu.out hbg],rfl⟩
      ·go_wp2_with (first | (go_at_call 128;refine(K0 _).mono ?_;rintro e w' ⟨rfl,rfl⟩))
       go_roundg (gk-1)
       case measure=>omega
       case rel=>exact⟨k+1,_,_,by omega,by omega,by go_num,rfl,rfl,by omega,by omega,by show _=_;rw[iD.out,Jh.out (by omega)],rfl⟩
    ·have k9:=hid (show QYa base dg.data.toList 0=some (Qmf big n)from by rw[hE.out,Q9a dg k (by omega)];rfl)
     cases big
     ·have hF:=hid (show Q5d s.data.toList=(n,0)from by rw[gX.out,k9.out];unfold QTk Qmf;simp;omega)
      go_wp2_with fail
      go_ret2
      exact⟨by rw[hF.out];rfl,_,rfl⟩
     ·have hF:=hid (show Q5d s.data.toList=(0,2)from by rw[gX.out,k9.out];unfold QTk Qmf;simp)
      go_wp2_with fail
      go_ret2
      exact⟨by rw[hF.out];rfl,_,rfl⟩
end Go.Proofs.YtofhcgbihonckaaGreat
