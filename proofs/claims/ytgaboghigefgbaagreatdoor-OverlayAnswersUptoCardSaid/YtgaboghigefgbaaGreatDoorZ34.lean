/- Lemmas on the way to the law; no conditions. -/
import Derived.Deep.DeepCutAuto
import Derived.Deep.CutBlock
import Derived.Test.YtgaboghigefgbaaGreatDoorZ9
import Derived.Test.YtgaboghigefgbaaGreatDoorZ14
set_option linter.all false
set_option maxHeartbeats 8000000
namespace Go.Proofs.YtgaboghigefgbaaGreatDoor
open Go.Proofs.Tryz
open Go.Lib (hid)
open Go.RowKit
theorem Q7t{l:List UInt8}(h:Lib.hasPrefix l [48,120]=true):QNb l=(16,l.drop 2):=by unfold QNb;simp[h]
theorem Q8t{l:List UInt8}(h:Lib.hasPrefix l [48,120]=false)(h1:1<l.length)(h2:((l.headD 0).toNat:Int)=48):QNb l=(8,l.drop 1):=by
 have h3:l.headD 0=48:=by
  apply UInt8.toNat_inj.1;have:(l.headD 0).toNat=48:=by omega
  rw[this];rfl
 unfold QNb;rw[if_neg (by simp[h]),if_pos ⟨h1,h3⟩]
theorem QFs{l:List UInt8}(h:Lib.hasPrefix l [48,120]=false)(h1:¬1<l.length∨((l.headD 0).toNat:Int)≠48):QNb l=(10,l):=by
 unfold QNb;rw[if_neg (by simp[h]),if_neg ?_];rintro⟨a,b⟩;rcases h1 with h1|h1;exact h1 a;apply h1;rw[b];rfl
theorem Qol(s:ByteArray)(w:World)(hs:s.size≤maxLen) :
 Calls prog 194 #[.string s] w fun e w'=>e=.returned (.tuple #[.int .i64 (Qdm s.data.toList).1,.int .i64 (Qdm s.data.toList).2])∧∃n,w'=w.drewN n:=by
 unfold maxLen at hs;go_enter func194,ntmps194;go_upto_block 0 with fail;have GD:=Qcm s.data.toList;have Mp:=QQk s.data.toList;generalize hnp:QNb s.data.toList=np at GD Mp;have ni:=hid hnp;clear hnp;obtain⟨base,dl⟩:=np;obtain⟨Hb,Hc⟩:=GD;simp only at Hb Hc Mp;go_cut [4,5] (fun b d wx=>∃dg:ByteArray,b=.int .i64 base∧d=.string dg∧Hid (dg.data.toList=dl)∧∃n,wx=w.drewN n)
 case first=>
  by_cases hp:Lib.hasPrefix s.data.toList [48,120]=true
  ·have jO:=Lib.hasPrefix_le hp;have uR:2≤s.size:=by simpa using jO
   go_wp2_with(first | (go_at_call 124;refine(Tryz.strings_HasPrefix _ _ _).mono ?_;rintro e w' ⟨rfl,rfl⟩));go_quiet(fail)
   go_wp2
   go_meet
   case rel=>
    have e:=(Q7t hp).symm.trans ni.o;obtain⟨rfl,rfl⟩:=Prod.mk.inj e;exact⟨_,rfl,rfl,QEc s 2,_,rfl⟩
  have hp:Lib.hasPrefix s.data.toList [48,120]=false:=by simpa using hp
  by_cases h1:1<s.size
  ·have hH:=hid (QId s (by omega));by_cases h48:(s[0].toNat:Int)=48
   ·have th:((s[0].toNat:Int)==48)=true:=by simpa using h48
    have rF:=hid h48;clear h48;go_wp2_with(first | (go_at_call 124;refine(Tryz.strings_HasPrefix _ _ _).mono ?_;rintro e w' ⟨rfl,rfl⟩));go_quiet(fail)
    go_wp2
    go_meet
    case rel=>
     have e:=(Q8t hp (by simpa using h1) (by rw[hH.o];exact rF.o)).symm.trans ni.o;obtain⟨rfl,rfl⟩:=Prod.mk.inj e;exact⟨_,rfl,rfl,QEc s 1,_,rfl⟩
   have th:((s[0].toNat:Int)==48)=false:=by simpa using h48
   have rF:=hid h48;clear h48;go_wp2_with(first | (go_at_call 124;refine(Tryz.strings_HasPrefix _ _ _).mono ?_;rintro e w' ⟨rfl,rfl⟩));go_meet
   case rel=>
    have e:=(QFs hp (.inr (by rw[hH.o];exact rF.o))).symm.trans ni.o;obtain⟨rfl,rfl⟩:=Prod.mk.inj e;exact⟨_,rfl,rfl,rfl,0,rfl⟩
  go_wp2_with(first | (go_at_call 124;refine(Tryz.strings_HasPrefix _ _ _).mono ?_;rintro e w' ⟨rfl,rfl⟩));go_meet
  case rel=>
   have e:=(QFs hp (.inl (by simpa using h1))).symm.trans ni.o;obtain⟨rfl,rfl⟩:=Prod.mk.inj e;exact⟨_,rfl,rfl,rfl,0,rfl⟩
 case rest=>
  obtain⟨dg,rfl,rfl,ur,n0,rfl⟩:=hcut;have hT:=hid (show Qdm s.data.toList=if dl=[]then(0,6)else Q9t (Qdd base dl 0)from by unfold Qdm;rw[ni.o]);have hlen:dg.size=dl.length:=by rw[←ur.o];simp
  have ls:dg.size≤9223372036854775807:=by rw[hlen];simp at Mp;omega
  have HL:=hid hlen;clear hlen;by_cases h0:dg.size=0
  ·obtain rfl:=Qeh dg h0;have hF:=hid (show Qdm s.data.toList=(0,6)from by rw[hT.o,if_pos];rw[←ur.o];rfl);clear h0;go_wp2_with fail;go_ret2;exact⟨by rw[hF.o];rfl,_,rfl⟩
  have h0:0<dg.size:=by omega
  have Hl:=QLe dg h0;have kM:=QJc dg h0;have g8:=hid (show Qdm s.data.toList=Q9t (Qdd base dg.data.toList 0)from by rw[hT.o,ur.o,if_neg];intro e;have:=HL.o;subst e;simp only[List.length_nil]at this;omega);go_wp2_with fail
  go_loop [6,30] (fun x i=>∃k:Nat,∃n:Int,k≤dg.size∧i=.int .i64 k∧x=.int .i64 n∧0≤n∧n≤4294967296∧Hid (Qdd base dg.data.toList 0=Qdd base (dg.data.toList.drop k) n)) (fun _ i=>dg.size-(intOf i).toNat)
  case atStart=>exact⟨0,0,Nat.zero_le _,rfl,rfl,by omega,by omega,rfl⟩
  case round=>
   obtain⟨k,n,hk,rfl,rfl,M9,Mq,hE⟩:=hrel;by_cases Hh:k<dg.size
   ·have Ks:=hid (show Qdd base dg.data.toList 0=if Qrg dg[k].toNat<0∨base≤Qrg dg[k].toNat then none else Qdd base (dg.data.toList.drop (k+1)) (min (n*base+Qrg dg[k].toNat) 4294967296)from by rw[hE.o,Qdb dg k Hh];rfl);have GD:=QDj dg[k].toNat;have Kc:0≤n*base:=Int.mul_nonneg M9 (by omega);have hnb2:n*base≤4294967296*16:=Int.mul_le_mul Mq Hc (by omega) (by omega);by_cases hh:Qrg dg[k].toNat<0
    ·have hF:=hid (show Qdm s.data.toList=(0,6)from by rw[g8.o,Ks.o,if_pos (.inl hh)];rfl);go_wp2_with(first | (go_at_call 211;refine(Q0d _ _ (by omega) (QRc _)).mono ?_;rintro e w' ⟨rfl,rfl⟩))
     go_ret2;exact⟨by rw[hF.o];rfl,_,rfl⟩
    have hh:0≤Qrg dg[k].toNat:=by omega
    by_cases hg:base≤Qrg dg[k].toNat
    ·have hF:=hid (show Qdm s.data.toList=(0,6)from by rw[g8.o,Ks.o,if_pos (.inr hg)];rfl);go_wp2_with(first | (go_at_call 211;refine(Q0d _ _ (by omega) (QRc _)).mono ?_;rintro e w' ⟨rfl,rfl⟩))
     go_ret2;exact⟨by rw[hF.o];rfl,_,rfl⟩
    have hg:Qrg dg[k].toNat<base:=by omega
    have eb:=hid (show Qdd base dg.data.toList 0=Qdd base (dg.data.toList.drop (k+1)) (min (n*base+Qrg dg[k].toNat) 4294967296)from by rw[Ks.o,if_neg (by omega)]);go_wp2_with(first | (go_at_call 211;refine(Q0d _ _ (by omega) (QRc _)).mono ?_;rintro e w' ⟨rfl,rfl⟩))
    go_round
    case rel=>exact⟨k+1,_,by omega,by go_num,rfl,by omega,by omega,eb⟩
    case measure=>simp[intOf];omega
   have Ks:=hid (show Qdd base dg.data.toList 0=some n from by rw[hE.o,QFc dg k (by omega)];rfl);by_cases hg:4294967295<n
   ·have hF:=hid (show Qdm s.data.toList=(0,2)from by rw[g8.o,Ks.o];unfold Q9t;simp only;rw[if_pos (by omega)]);go_wp2_with fail;go_ret2;exact⟨by rw[hF.o];rfl,_,rfl⟩
   have hF:=hid (show Qdm s.data.toList=(n,0)from by rw[g8.o,Ks.o];unfold Q9t;simp only;rw[if_neg (by omega)]);go_wp2_with fail;go_ret2;exact⟨by rw[hF.o];rfl,_,rfl⟩
theorem QJt(v:Int)(h0:0≤v)(h1:v≤255):((v.toNat.toUInt8).toNat:Int)=v:=by simp[Nat.toUInt8];omega
theorem Qni(acc:List UInt8)(v:Int)(h0:0≤v)(h1:v≤255):Lib.byteCells acc++[.int .u8 v]=Lib.byteCells (acc++[v.toNat.toUInt8]):=by
 unfold Lib.byteCells;rw[List.map_append,List.map_singleton,QJt v h0 h1]
theorem QZt(l:List UInt8):0≤(esc l).1∧(esc l).1≤255∧(esc l).2.1≤3∧(esc l).2.1≤l.length∧((esc l).2.2=0→1≤(esc l).2.1)∧(esc l).2.2≤21∧0≤(esc l).2.2:=by
 cases l with
 | nil=>simp[esc]
 | cons c r=>
  simp only[esc]
  repeat' (split;· simp)
  cases r with
  | nil=>simp[hx2]
  | cons a r=>
   simp only[hx2]
   repeat' (split;· simp)
   cases r with
   | nil=>simp[hx2]
   | cons b r=>
    have h1:=QDj a.toNat;have h2:=QDj b.toNat;simp only[hx2]
    repeat' (split;· simp)
    simp;omega
theorem Qpl(s:ByteArray)(w:World)(hs:s.size≤140737488355328)(h1:0<s.size) :
 Calls prog 195 #[.string s] w fun e w'=>e=.returned (.tuple #[.string ⟨(qtA s.data.toList.length (s.data.toList.drop 1) [] 1).1.toArray⟩,.int .i64 (qtA s.data.toList.length (s.data.toList.drop 1) [] 1).2.1,.int .i64 (qtA s.data.toList.length (s.data.toList.drop 1) [] 1).2.2])∧Below w.heap.size w w':=by
 generalize hF:qtA s.data.toList.length (s.data.toList.drop 1) [] 1=R;have HF:=hid hF;clear hF;go_enter func195,ntmps195;go_wp2_with fail
 go_loopw [6] (fun i wr=>∃(k f:Nat) (acc:List UInt8),1≤k∧k≤s.size∧s.size≤k+f∧acc.length<k∧i=.int .i64 k∧Hid (qtA f (s.data.toList.drop k) acc k=R)∧Lib.IsBuilder 231 5 w.heap.size w.heap.size (Lib.byteCells acc) wr∧Below w.heap.size w wr) (fun i _=>s.size-(intOf i).toNat)
 case atStart=>exact⟨1,s.data.toList.length,[],by omega,by omega,by simp,by simp,rfl,HF,Lib.fresh_isBuilder _ _ w,Bq⟩
 case round=>
  obtain⟨k,f,acc,Ga,hk,hf,aw,rfl,hE,hB,kL⟩:=hrel;by_cases Hh:k<s.size
  ·obtain⟨f,rfl⟩:∃f',f=f'+1:=⟨f-1,by omega⟩
   have Ks:Hid (R=if s[k].toNat=34 then(acc,k+1,0)else if s[k].toNat=10 then([],0,21)else if s[k].toNat=92 then
    (if (esc (s.data.toList.drop (k+1))).2.2≠0 then([],0,(esc (s.data.toList.drop (k+1))).2.2)else qtA f ((s.data.toList.drop (k+1)).drop (esc (s.data.toList.drop (k+1))).2.1) (acc++[(esc (s.data.toList.drop (k+1))).1.toNat.toUInt8]) (k+(esc (s.data.toList.drop (k+1))).2.1+1))
    else qtA f (s.data.toList.drop (k+1)) (acc++[s[k]]) (k+1)):=by
    show _=_;rw[←hE.o,Qdb s k Hh];rfl
   have Hy:=kL.size;have gG:(Lib.byteCells acc).length+1≤140737488355328:=by unfold Lib.byteCells;simp;omega
   by_cases Ml:s[k].toNat=34
   ·have fB:((s[k].toNat:Int)==34)=true:=by simp[Ml]
    have hR:=hid (show R=(acc,k+1,0)from by rw[Ks.o,if_pos Ml]);clear Ml;go_wp2_with(first | (go_at_call 212;refine(Tryz.Builder_String_any _ _ acc _ hB Hy).mono ?_;rintro e w1 ⟨rfl,Hb⟩));go_ret3;exact⟨by rw[hR.o];simp,kL.trans Hb⟩
   have fB:((s[k].toNat:Int)==34)=false:=by simp;omega
   by_cases gR:s[k].toNat=10
   ·have J4:((s[k].toNat:Int)==10)=true:=by simp[gR]
    have hR:=hid (show R=([],0,21)from by rw[Ks.o,if_neg Ml,if_pos gR]);clear gR Ml;go_wp2_with fail;go_ret3;exact⟨by rw[hR.o];rfl,kL⟩
   have J4:((s[k].toNat:Int)==10)=false:=by simp;omega
   by_cases h92:s[k].toNat=92
   ·have tr:((s[k].toNat:Int)==92)=true:=by simp[h92]
    have xY:=QZt (s.data.toList.drop (k+1));have aH:=fun wx=>Qnl (s.extract (k+1) s.size) wx (by simp[maxLen];omega);rw[QEc]at aH;have hR:=hid (show R=(if (esc (s.data.toList.drop (k+1))).2.2≠0 then([],0,(esc (s.data.toList.drop (k+1))).2.2)else qtA f ((s.data.toList.drop (k+1)).drop (esc (s.data.toList.drop (k+1))).2.1) (acc++[(esc (s.data.toList.drop (k+1))).1.toNat.toUInt8]) (k+(esc (s.data.toList.drop (k+1))).2.1+1))from by rw[Ks.o,if_neg Ml,if_neg gR,if_pos h92]);clear Ks h92 gR Ml;generalize esc (s.data.toList.drop (k+1))=E at xY aH hR;obtain⟨ev,en,ee⟩:=E;obtain⟨g1,g2,g3,g4,g5,g6,g7⟩:=xY;simp only[List.length_drop]at g1 g2 g3 g4 g5 g6 g7 aH hR;have g4':en+(k+1)≤s.size:=by simp at g4;omega
    have HS:=hid aH;clear aH g4;by_cases hz:ee=0
    ·subst hz;have g5':=hid (g5 rfl);clear g5;go_wp2_with(first | (go_at_call 213;refine(HS.o _).mono ?_;rintro e w1 ⟨rfl,nd,rfl⟩) | (go_at_call 214;refine(Qxl _ _ (Lib.byteCells acc) ev _ (by exact hB) gG (by exact Hy)).mono ?_;rintro e w1 ⟨rfl,Hb,Hc⟩))
     go_roundw
     case rel=>exact⟨k+en+1,f,acc++[ev.toNat.toUInt8],by omega,by omega,by omega,by simp;omega,by go_num,by have:=hR.o;rw[if_neg (by simp),List.drop_drop]at this;show _=_;rw[this,show k+1+en=k+en+1 from by omega],.inr (by rw[←Qni acc ev g1 g2];exact Hb),(below_drewN kL nd).trans Hc⟩
     case measure=>simp[intOf];omega
    have hz':(ee != 0)=true:=by simpa using hz
    have HR:=hid (show R=([],0,ee)from by rw[hR.o,if_pos hz]);clear hz g5;go_wp2_with(first | (go_at_call 213;refine(HS.o _).mono ?_;rintro e w1 ⟨rfl,nd,rfl⟩));go_ret3;exact⟨by rw[HR.o];rfl,below_drewN kL _⟩
   have tr:((s[k].toNat:Int)==92)=false:=by simp;omega
   have hR:=hid (show R=qtA f (s.data.toList.drop (k+1)) (acc++[s[k]]) (k+1)from by rw[Ks.o,if_neg Ml,if_neg gR,if_neg h92]);clear Ks h92 gR Ml;go_wp2_with(first | (go_at_call 214;refine(Qxl _ _ (Lib.byteCells acc) _ _ hB gG Hy).mono ?_;rintro e w1 ⟨rfl,Hb,Hc⟩))
   go_roundw
   case rel=>exact⟨k+1,f,acc++[s[k]],by omega,by omega,by omega,by simp;omega,by go_num,hR.o.symm,.inr (by simpa[Lib.byteCells]using Hb),kL.trans Hc⟩
   case measure=>simp[intOf];omega
  have hR:=hid (show R=([],0,21)from by rw[←hE.o,QFc s k (by omega)];cases f <;> rfl);go_wp2_with fail;go_ret3;exact⟨by rw[hR.o];rfl,kL⟩
theorem QBd(s:ByteArray)(a b:Nat):s.extract a b=⟨((s.data.toList.take b).drop a).toArray⟩:=by
 apply ByteArray.ext;apply Array.toList_inj.1;rw[QIf]
theorem Qaj(s:ByteArray)(g:Nat)(p:Int→Bool)(w:World)(hp:Q6j g p)(eg:∀args w,(callFunc g args).run prog w=.ok (.enter g args) w)(hs:s.size≤maxLen) :
 Calls prog 192 #[.string s,.int .i64 0,.func (.func g) #[] #[]] w fun e w'=>e=.returned (.int .i64 (Qwc p s.data.toList))∧w=w':=
 Qgi s 0 g p w hp eg hs (Nat.zero_le _)
theorem Qbj(s:ByteArray)(g:Nat)(p:Int→Bool)(w:World)(hp:Q6j g p)(eg:∀args w,(callFunc g args).run prog w=.ok (.enter g args) w)(hs:s.size≤maxLen)(h1:0<s.size) :
 Calls prog 192 #[.string s,.int .i64 1,.func (.func g) #[] #[]] w fun e w'=>e=.returned (.int .i64 (Qwc p (s.data.toList.drop 1)))∧w=w':=
 Qgi s 1 g p w hp eg hs h1
def QKb(file:Int)(t:Tok):Value:=.agg #[.int .i64 t.kind,.string ⟨t.text.toArray⟩,.int .i64 t.value,.int .i64 file,.int .i64 t.line,.int .i64 t.col]
def Qnd(s:ByteArray)(w:World)(e:Ending)(w':World):Prop:=
 e=.returned (.tuple #[QKb 0 (Q2b s.data.toList).1,.int .i64 (Q2b s.data.toList).2.1,.int .i64 (Q2b s.data.toList).2.2])∧Below w.heap.size w w'
theorem QOh(s:ByteArray):s.data.toList.length=s.size:=by simp
theorem Qqg(s:ByteArray)(n:Nat)(h:n<s.size):s.data.toList.getD n 0=s[n]:=by
 have:=Qdb s n h;rw[List.getD_eq_getElem?_getD,List.getElem?_eq_getElem (by simpa using h)];rfl
theorem Q2p(s:ByteArray)(w:World)(hs:s.size≤140737488355328)(h1:0<s.size)(hc:QIa s[0].toNat=true∨(s[0].toNat:Int)=95∨(s[0].toNat:Int)=35) :
 Calls prog 159 #[.string s] w (Qnd s w):=by
 have hm:s.size≤maxLen:=by unfold maxLen;omega
 have hH:=QId s h1
 have hF:=hid (show Q2b s.data.toList=if Qwc QYb s.data.toList=s.data.toList.length∨(s.data.toList.getD (Qwc QYb s.data.toList) 0).toNat≠58 then(⟨1,s.data.toList.take (Qwc QYb s.data.toList),0,0,0⟩,Qwc QYb s.data.toList,0)
  else if Q1j Q7b (s.data.toList.take (Qwc QYb s.data.toList))=true then(⟨5,s.data.toList.take (Qwc QYb s.data.toList),0,0,0⟩,Qwc QYb s.data.toList+1,0)else(⟨0,[],0,0,0⟩,0,6)from by unfold Q2b;simp only[hH];rw[if_pos hc])
 have Gw:=fun wx=>Qaj s 95 QYb wx QCg Qzf hm;have hn:=Qfe QYb s.data.toList;have Ha:=fun wx=>Qfi (s.extract 0 (Qwc QYb s.data.toList)) 130 Q7b wx QDg QAf (by unfold maxLen at *;simp;omega);rw[QIf,List.drop_zero]at Ha;generalize Qwc QYb s.data.toList=n at hF Gw hn Ha;have HR:=hid Gw;clear Gw;have HA:=hid Ha;clear Ha;have hn':n≤s.size:=by simpa using hn
 clear hn hH;have Hw:QIa s[0].toNat=true∨QIa s[0].toNat=false∧((s[0].toNat:Int)==95)=true∨QIa s[0].toNat=false∧((s[0].toNat:Int)==95)=false∧((s[0].toNat:Int)==35)=true:=by
  by_cases a:QIa s[0].toNat=true
  ·exact .inl a
  have a':QIa s[0].toNat=false:=by simpa using a
  by_cases b:(s[0].toNat:Int)=95
  ·exact .inr (.inl ⟨a',by simpa using b⟩)
  have c:(s[0].toNat:Int)=35:=by rcases hc with h|h|h;exact absurd h a;exact absurd h b;exact h
  exact .inr (.inr ⟨a',by simpa using b,by simpa using c⟩)
 clear hc;by_cases ko:n=s.size
 ·have hR:=hid (show Q2b s.data.toList=(⟨1,s.data.toList.take n,0,0,0⟩,n,0)from by rw[hF.o,if_pos (.inl (by simpa using ko))]);have vd:((n:Int)==(s.size:Int))=true:=by simp;omega
  clear ko;rcases Hw with h|⟨h,h'⟩|⟨h,h',h''⟩
  all_goals
   go_enter func159,ntmps159;go_wp2_with(first | (go_at_call 93;refine(QMa _ _).mono ?_;rintro e w' ⟨rfl,rfl⟩) | (go_at_call 192;refine(HR.o _).mono ?_;rintro e w' ⟨rfl,rfl⟩));exact bodyPost_ret (v:=.tuple #[.agg #[.int .i64 1,.string (s.extract 0 n),.int .i64 0,.int .i64 0,.int .i64 0,.int .i64 0],.int .i64 n,.int .i64 0]) (by simp[results,Tryz.results159,go_sem]) rfl ⟨by rw[hR.o,QBd];rfl,Bq⟩
 have Hh:n<s.size:=by omega
 have vd:((n:Int)==(s.size:Int))=false:=by simp;omega
 have hg:=Qqg s n Hh;by_cases fD:s[n].toNat=58
 ·have tl:((s[n].toNat:Int) != 58)=false:=by simp[fD]
  by_cases hw:Q1j Q7b (s.data.toList.take n)=true
  ·have hR:=hid (show Q2b s.data.toList=(⟨5,s.data.toList.take n,0,0,0⟩,n+1,0)from by rw[hF.o,if_neg,if_pos hw];rintro(h|h);exact ko (by simpa using h);rw[hg]at h;exact h fD);clear ko fD hg;rcases Hw with h|⟨h,h'⟩|⟨h,h',h''⟩
   all_goals
    go_enter func159,ntmps159;go_wp2_with(first | (go_at_call 93;refine(QMa _ _).mono ?_;rintro e w' ⟨rfl,rfl⟩) | (go_at_call 192;refine(HR.o _).mono ?_;rintro e w' ⟨rfl,rfl⟩) | (go_at_call 94;refine(HA.o _).mono ?_;rintro e w' ⟨rfl,rfl⟩));exact bodyPost_ret (v:=.tuple #[.agg #[.int .i64 5,.string (s.extract 0 n),.int .i64 0,.int .i64 0,.int .i64 0,.int .i64 0],.int .i64 (n+1),.int .i64 0]) (by simp[results,Tryz.results159,go_sem]) rfl ⟨by rw[hR.o,QBd];rfl,Bq⟩
  have hw:Q1j Q7b (s.data.toList.take n)=false:=by simpa using hw
  have hR:=hid (show Q2b s.data.toList=(⟨0,[],0,0,0⟩,0,6)from by rw[hF.o,if_neg,if_neg (by simp[hw])];rintro(h|h);exact ko (by simpa using h);rw[hg]at h;exact h fD);clear ko fD hg;rcases Hw with h|⟨h,h'⟩|⟨h,h',h''⟩
  all_goals
   go_enter func159,ntmps159;go_wp2_with(first | (go_at_call 93;refine(QMa _ _).mono ?_;rintro e w' ⟨rfl,rfl⟩) | (go_at_call 192;refine(HR.o _).mono ?_;rintro e w' ⟨rfl,rfl⟩) | (go_at_call 94;refine(HA.o _).mono ?_;rintro e w' ⟨rfl,rfl⟩));exact bodyPost_ret (v:=.tuple #[.agg #[.int .i64 0,.string ⟨#[]⟩,.int .i64 0,.int .i64 0,.int .i64 0,.int .i64 0],.int .i64 0,.int .i64 6]) (by simp[results,Tryz.results159,go_sem]) rfl ⟨by rw[hR.o];rfl,Bq⟩
 have tl:((s[n].toNat:Int) != 58)=true:=by simp;omega
 have hR:=hid (show Q2b s.data.toList=(⟨1,s.data.toList.take n,0,0,0⟩,n,0)from by rw[hF.o,if_pos];right;rw[hg];exact fD);clear ko fD hg;rcases Hw with h|⟨h,h'⟩|⟨h,h',h''⟩
 all_goals
  go_enter func159,ntmps159;go_wp2_with(first | (go_at_call 93;refine(QMa _ _).mono ?_;rintro e w' ⟨rfl,rfl⟩) | (go_at_call 192;refine(HR.o _).mono ?_;rintro e w' ⟨rfl,rfl⟩) | (go_at_call 94;refine(HA.o _).mono ?_;rintro e w' ⟨rfl,rfl⟩));exact bodyPost_ret (v:=.tuple #[.agg #[.int .i64 1,.string (s.extract 0 n),.int .i64 0,.int .i64 0,.int .i64 0,.int .i64 0],.int .i64 n,.int .i64 0]) (by simp[results,Tryz.results159,go_sem]) rfl ⟨by rw[hR.o,QBd];rfl,Bq⟩
theorem Qzk(c:Int)(hc:¬(QIa c=true∨c=95∨c=35)):QIa c=false∧(c==95)=false∧(c==35)=false:=by
 refine⟨?_,?_,?_⟩
 ·cases h:QIa c;rfl;exact absurd (.inl h) hc
 ·simp;intro h;exact hc (.inr (.inl h))
 simp;intro h;exact hc (.inr (.inr h))
theorem Q6n(s:ByteArray)(w:World)(hs:s.size≤140737488355328)(h1:0<s.size)(hc:¬(QIa s[0].toNat=true∨(s[0].toNat:Int)=95∨(s[0].toNat:Int)=35))(hd:QKc s[0].toNat=true) :
 Calls prog 159 #[.string s] w (Qnd s w):=by
 have hm:s.size≤maxLen:=by unfold maxLen;omega
 have hH:=QId s h1;have hF:=hid (show Q2b s.data.toList=(⟨2,[],(Qdm (s.data.toList.take (Qwc Q7b s.data.toList))).1,0,0⟩,Qwc Q7b s.data.toList,(Qdm (s.data.toList.take (Qwc Q7b s.data.toList))).2)from by unfold Q2b;simp only[hH];rw[if_neg hc,if_pos hd]);have Gw:=fun wx=>Qaj s 130 Q7b wx QDg QAf hm;have hn:=Qfe Q7b s.data.toList;have Kd:=fun wx=>Qol (s.extract 0 (Qwc Q7b s.data.toList)) wx (by unfold maxLen at *;simp;omega);rw[QIf,List.drop_zero]at Kd;generalize Qwc Q7b s.data.toList=n at hF Gw hn Kd;generalize Qdm (s.data.toList.take n)=N at hF Kd;have HR:=hid Gw;clear Gw;have HA:=hid Kd;clear Kd;have hn':n≤s.size:=by simpa using hn
 clear hn hH;obtain⟨h,h',h''⟩:=Qzk _ hc;clear hc;go_enter func159,ntmps159;go_wp2_with(first | (go_at_call 93;refine(QMa _ _).mono ?_;rintro e w' ⟨rfl,rfl⟩) | (go_at_call 180;refine(Qeb _ _).mono ?_;rintro e w' ⟨rfl,rfl⟩) | (go_at_call 192;refine(HR.o _).mono ?_;rintro e w' ⟨rfl,rfl⟩) | (go_at_call 194;refine(HA.o _).mono ?_;rintro e w' ⟨rfl,nd,rfl⟩));exact bodyPost_ret (v:=.tuple #[.agg #[.int .i64 2,.string ⟨#[]⟩,.int .i64 N.1,.int .i64 0,.int .i64 0,.int .i64 0],.int .i64 n,.int .i64 N.2]) (by simp[results,Tryz.results159,go_sem]) rfl ⟨by rw[hF.o];rfl,
  ((((((below_drewN (Bq) nd).setCell (Nat.le_refl _) _).setCell (Nat.le_refl _) _).setCell (Nat.le_refl _) _).setCell (Nat.le_refl _) _).setCell (Nat.le_refl _) _).setCell (Nat.le_refl _) _⟩
theorem six{w:World}{b:Nat}{x0 x1 x2 x3 x4 x5:Value}{t:TypeId}(h:Holds w b #[x0,x1,x2,x3,x4,x5] t) :
 (w.cell? ⟨b,0,none⟩=some x0∧w.cell? ⟨b,1,none⟩=some x1∧w.cell? ⟨b,2,none⟩=some x2∧w.cell? ⟨b,3,none⟩=some x3∧w.cell? ⟨b,4,none⟩=some x4∧w.cell? ⟨b,5,none⟩=some x5)∧
 (w.frozen? ⟨b,0,none⟩=false∧w.frozen? ⟨b,1,none⟩=false∧w.frozen? ⟨b,2,none⟩=false∧w.frozen? ⟨b,3,none⟩=false∧w.frozen? ⟨b,4,none⟩=false∧w.frozen? ⟨b,5,none⟩=false):=
 ⟨⟨h.cell 0,h.cell 1,h.cell 2,h.cell 3,h.cell 4,h.cell 5⟩,h.free 0,h.free 1,h.free 2,h.free 3,h.free 4,h.free 5⟩
theorem Qam(s:ByteArray)(w:World)(hs:s.size≤140737488355328)(h1:0<s.size)(hc:¬(QIa s[0].toNat=true∨(s[0].toNat:Int)=95∨(s[0].toNat:Int)=35))(hd:QKc s[0].toNat=false)(hq:(s[0].toNat:Int)=34) :
 Calls prog 159 #[.string s] w (Qnd s w):=by
 have hH:=QId s h1;have hF:=hid (show Q2b s.data.toList=(⟨3,(qtA s.data.toList.length (s.data.toList.drop 1) [] 1).1,0,0,0⟩,(qtA s.data.toList.length (s.data.toList.drop 1) [] 1).2.1,(qtA s.data.toList.length (s.data.toList.drop 1) [] 1).2.2)from by unfold Q2b;simp only[hH];rw[if_neg hc,if_neg (by simp[hd]),if_pos hq]);have Kd:=fun wx=>Qpl s wx hs h1;generalize qtA s.data.toList.length (s.data.toList.drop 1) [] 1=Q at hF Kd;have HA:=hid Kd;clear Kd;have hq':((s[0].toNat:Int)==34)=true:=by simpa using hq
 obtain⟨h,h',h''⟩:=Qzk _ hc;clear hc hq hH;go_enter func159,ntmps159;go_wp2_with(first | (go_at_call 93;refine(QMa _ _).mono ?_;rintro e w' ⟨rfl,rfl⟩) | (go_at_call 180;refine(Qeb _ _).mono ?_;rintro e w' ⟨rfl,rfl⟩));refine(HA.o _).mono ?_;rintro e w1 ⟨rfl,Hb⟩;have hB:Holds w1 w.heap.size #[.int .i64 0,.string ⟨#[]⟩,.int .i64 0,.int .i64 0,.int .i64 0,.int .i64 0] 150:=(Hb.block w.heap.size (by simp)).trans (Holds.new w _ _);obtain⟨⟨c0,c1,c2,c3,c4,c5⟩,f0,f1,f2,f3,f4,f5⟩:=six hB;have Hh:=hB.lt;have Hc:Below w.heap.size w w1:=(Bq).trans (Hb.mono (by simp));go_wp2_with fail;exact bodyPost_ret (v:=.tuple #[.agg #[.int .i64 3,.string ⟨Q.1.toArray⟩,.int .i64 0,.int .i64 0,.int .i64 0,.int .i64 0],.int .i64 Q.2.1,.int .i64 Q.2.2]) (by simp[results,Tryz.results159,go_sem,c0,c1,c2,c3,c4,c5]) rfl ⟨by rw[hF.o];rfl,
  (((((Hc.setCell (Nat.le_refl _) _).setCell (Nat.le_refl _) _).setCell (Nat.le_refl _) _).setCell (Nat.le_refl _) _).setCell (Nat.le_refl _) _).setCell (Nat.le_refl _) _⟩
theorem Q2r(s:ByteArray)(w:World)(hs:s.size≤140737488355328)(h1:0<s.size)(hc:¬(QIa s[0].toNat=true∨(s[0].toNat:Int)=95∨(s[0].toNat:Int)=35))(hd:QKc s[0].toNat=false)(hq:¬(s[0].toNat:Int)=34)(Jw:(s[0].toNat:Int)=38)(Gn:1<s.size)(hl:QIa s[1].toNat=true∨(s[1].toNat:Int)=95) :
 Calls prog 159 #[.string s] w (Qnd s w):=by
 have hm:s.size≤maxLen:=by unfold maxLen;omega
 have hH:=QId s h1;have hG:=Qqg s 1 Gn;have hF:=hid (show Q2b s.data.toList=(⟨6,(s.data.toList.take (Qwc Q7b (s.data.toList.drop 1)+1)).drop 1,0,0,0⟩,Qwc Q7b (s.data.toList.drop 1)+1,0)from by
  unfold Q2b;simp only[hH];rw[if_neg hc,if_neg (by simp[hd]),if_neg hq,if_pos ⟨Jw,by simpa using Gn,by rw[hG];rcases hl with h|h;exact .inl h;right;omega⟩])
 have Gw:=fun wx=>Qbj s 130 Q7b wx QDg QAf hm h1;have hn:=Qfe Q7b (s.data.toList.drop 1);generalize Qwc Q7b (s.data.toList.drop 1)=n at hF Gw hn;have HR:=hid Gw;clear Gw;have hn':n+1≤s.size:=by simp at hn;omega
 have hq':((s[0].toNat:Int)==34)=false:=by simpa using hq
 have sY:((s[0].toNat:Int)==38)=true:=by simpa using Jw
 obtain⟨h,h',h''⟩:=Qzk _ hc;clear hn hH hG hc hq Jw;by_cases GO:QIa s[1].toNat=true
 ·clear hl;go_enter func159,ntmps159;go_wp2_with(first | (go_at_call 93;refine(QMa _ _).mono ?_;rintro e w' ⟨rfl,rfl⟩) | (go_at_call 180;refine(Qeb _ _).mono ?_;rintro e w' ⟨rfl,rfl⟩) | (go_at_call 192;refine(HR.o _).mono ?_;rintro e w' ⟨rfl,rfl⟩));exact bodyPost_ret (v:=.tuple #[.agg #[.int .i64 6,.string (s.extract 1 (n+1)),.int .i64 0,.int .i64 0,.int .i64 0,.int .i64 0],.int .i64 (n+1),.int .i64 0]) (by simp[results,Tryz.results159,go_sem]) rfl ⟨by rw[hF.o,QBd];rfl,Bq⟩
 have gS:((s[1].toNat:Int)==95)=true:=by rcases hl with h|h;exact absurd h GO;simpa using h
 have GO:QIa s[1].toNat=false:=by simpa using GO
 clear hl;go_enter func159,ntmps159;go_wp2_with(first | (go_at_call 93;refine(QMa _ _).mono ?_;rintro e w' ⟨rfl,rfl⟩) | (go_at_call 180;refine(Qeb _ _).mono ?_;rintro e w' ⟨rfl,rfl⟩) | (go_at_call 192;refine(HR.o _).mono ?_;rintro e w' ⟨rfl,rfl⟩));exact bodyPost_ret (v:=.tuple #[.agg #[.int .i64 6,.string (s.extract 1 (n+1)),.int .i64 0,.int .i64 0,.int .i64 0,.int .i64 0],.int .i64 (n+1),.int .i64 0]) (by simp[results,Tryz.results159,go_sem]) rfl ⟨by rw[hF.o,QBd];rfl,Bq⟩
def sgT(l:List UInt8):Tok × Nat × Int:=if Qmd l > 0 then(⟨4,l.take (Qmd l),0,0,0⟩,Qmd l,0)else(⟨0,[],0,0,0⟩,0,20)
theorem Qon(l:List UInt8)(h:l≠[]):Qmd l≤l.length:=by
 unfold Qmd;split
 ·rename_i h2;simp only[QSc,List.any_cons,List.any_nil,Bool.or_false,Bool.or_eq_true]at h2;rcases h2 with h2|h2|h2|h2|h2|h2|h2|h2 <;> exact Lib.hasPrefix_le h2
 split
 ·have:=List.length_pos_iff.2 h;omega
 omega
theorem Q3p(s:ByteArray)(w:World)(hs:s.size≤140737488355328)(h1:0<s.size)(hc:¬(QIa s[0].toNat=true∨(s[0].toNat:Int)=95∨(s[0].toNat:Int)=35))(hd:QKc s[0].toNat=false)(hq:¬(s[0].toNat:Int)=34)(Jw:¬((s[0].toNat:Int)=38∧1<s.size∧(QIa (s.data.toList.getD 1 0).toNat=true∨(s.data.toList.getD 1 0).toNat=95)))(bF:¬(s[0].toNat:Int)=47) :
 Calls prog 159 #[.string s] w (Qnd s w):=by
 have hm:s.size≤maxLen:=by unfold maxLen;omega
 have hH:=QId s h1;have hF:=hid (show Q2b s.data.toList=sgT s.data.toList from by
  unfold Q2b;simp only[hH];rw[if_neg hc,if_neg (by simp[hd]),if_neg hq,if_neg (by simpa using Jw),if_neg bF];rfl)
 have gE:=fun wx=>Qcj s wx hm h1;have hn:=Qon s.data.toList (by intro e;have h2:=QOh s;rw[e]at h2;simp only[List.length_nil]at h2;omega);unfold sgT at hF;generalize Qmd s.data.toList=n at hF gE hn;have HR:=hid gE;clear gE;have hn':n≤s.size:=by simpa using hn
 have hq':((s[0].toNat:Int)==34)=false:=by simpa using hq
 have tf:((s[0].toNat:Int)==47)=false:=by simpa using bF
 obtain⟨h,h',h''⟩:=Qzk _ hc;have nK:((s[0].toNat:Int)==38)=false∨((s[0].toNat:Int)==38)=true∧¬1<s.size∨∃Gn:1<s.size,((s[0].toNat:Int)==38)=true∧QIa s[1].toNat=false∧((s[1].toNat:Int)==95)=false:=by
  by_cases a:(s[0].toNat:Int)=38
  ·by_cases b:1<s.size
   ·rw[Qqg s 1 b]at Jw;refine .inr (.inr ⟨b,by simpa using a,?_,?_⟩)
    ·cases hx:QIa s[1].toNat;rfl;exact absurd ⟨a,b,.inl hx⟩ Jw
    simp;intro hx;exact Jw ⟨a,b,.inr (by omega)⟩
   exact .inr (.inl ⟨by simpa using a,b⟩)
  exact .inl (by simpa using a)
 clear hn hH hc hq Jw bF;by_cases M9:0<n
 ·have hR:=hid (show Q2b s.data.toList=(⟨4,s.data.toList.take n,0,0,0⟩,n,0)from by rw[hF.o,if_pos M9]);rcases nK with g|⟨g,g'⟩|⟨g,g',g2,g3⟩
  all_goals
   go_enter func159,ntmps159;go_wp2_with(first | (go_at_call 93;refine(QMa _ _).mono ?_;rintro e w' ⟨rfl,rfl⟩) | (go_at_call 180;refine(Qeb _ _).mono ?_;rintro e w' ⟨rfl,rfl⟩) | (go_at_call 197;refine(HR.o _).mono ?_;rintro e w' ⟨rfl,rfl⟩));exact bodyPost_ret (v:=.tuple #[.agg #[.int .i64 4,.string (s.extract 0 n),.int .i64 0,.int .i64 0,.int .i64 0,.int .i64 0],.int .i64 n,.int .i64 0]) (by simp[results,Tryz.results159,go_sem]) rfl ⟨by rw[hR.o,QBd];rfl,Bq⟩
 have M9:n=0:=by omega
 subst M9;have hR:=hid (show Q2b s.data.toList=(⟨0,[],0,0,0⟩,0,20)from by rw[hF.o,if_neg (by omega)]);rcases nK with g|⟨g,g'⟩|⟨g,g',g2,g3⟩
 all_goals
  go_enter func159,ntmps159;go_wp2_with(first | (go_at_call 93;refine(QMa _ _).mono ?_;rintro e w' ⟨rfl,rfl⟩) | (go_at_call 180;refine(Qeb _ _).mono ?_;rintro e w' ⟨rfl,rfl⟩) | (go_at_call 197;refine(HR.o _).mono ?_;rintro e w' ⟨rfl,rfl⟩));exact bodyPost_ret (v:=.tuple #[.agg #[.int .i64 0,.string ⟨#[]⟩,.int .i64 0,.int .i64 0,.int .i64 0,.int .i64 0],.int .i64 0,.int .i64 20]) (by simp[results,Tryz.results159,go_sem]) rfl ⟨by rw[hR.o];rfl,Bq⟩
theorem Q4p(s:ByteArray)(w:World)(hs:s.size≤140737488355328)(h1:0<s.size)(hc:¬(QIa s[0].toNat=true∨(s[0].toNat:Int)=95∨(s[0].toNat:Int)=35))(hd:QKc s[0].toNat=false)(hq:¬(s[0].toNat:Int)=34)(bF:(s[0].toNat:Int)=47) :
 Calls prog 159 #[.string s] w (Qnd s w):=by
 have hm:s.size≤maxLen:=by unfold maxLen;omega
 have hH:=QId s h1;have hF:=hid (show Q2b s.data.toList=if Qwc Qhd (s.data.toList.drop 1) > 0∧Qwc Qhd (s.data.toList.drop 1)+1<s.data.toList.length∧(s.data.toList.getD (Qwc Qhd (s.data.toList.drop 1)+1) 0).toNat=47 then(⟨7,(s.data.toList.take (Qwc Qhd (s.data.toList.drop 1)+1)).drop 1,0,0,0⟩,Qwc Qhd (s.data.toList.drop 1)+2,0)else sgT s.data.toList from by
  unfold Q2b;simp only[hH];rw[if_neg hc,if_neg (by simp[hd]),if_neg hq,if_neg (by rintro⟨a,_⟩;omega),if_pos bF];rfl)
 have gE:=fun wx=>Qcj s wx hm h1;have hn:=Qon s.data.toList (by intro e;have h2:=QOh s;rw[e]at h2;simp only[List.length_nil]at h2;omega);have Gw:=fun wx=>Qbj s 196 Qhd wx QBm Qvk hm h1;have hu:=Qfe Qhd (s.data.toList.drop 1);unfold sgT at hF;generalize Qmd s.data.toList=n at hF gE hn;generalize Qwc Qhd (s.data.toList.drop 1)=u at hF Gw hu;have HR:=hid gE;clear gE;have HU:=hid Gw;clear Gw;have hn':n≤s.size:=by simpa using hn
 have hu':u+1≤s.size:=by simp at hu;omega
 have hq':((s[0].toNat:Int)==34)=false:=by simpa using hq
 have sY:((s[0].toNat:Int)==38)=false:=by simp;omega
 have tf:((s[0].toNat:Int)==47)=true:=by simpa using bF
 obtain⟨h,h',h''⟩:=Qzk _ hc;clear hn hu hH hc hq bF;by_cases hw:0<u∧u+1<s.size∧(s.data.toList.getD (u+1) 0).toNat=47
 ·obtain⟨g1,g2,g3⟩:=hw;have hR:=hid (show Q2b s.data.toList=(⟨7,(s.data.toList.take (u+1)).drop 1,0,0,0⟩,u+2,0)from by rw[hF.o,if_pos ⟨g1,by rw[QOh];exact g2,g3⟩]);rw[Qqg s _ g2]at g3;have g4:((s[u+1].toNat:Int)==47)=true:=by simp[g3]
  clear g3;go_enter func159,ntmps159;go_wp2_with(first | (go_at_call 93;refine(QMa _ _).mono ?_;rintro e w' ⟨rfl,rfl⟩) | (go_at_call 180;refine(Qeb _ _).mono ?_;rintro e w' ⟨rfl,rfl⟩) | (go_at_call 192;refine(HU.o _).mono ?_;rintro e w' ⟨rfl,rfl⟩) | (go_at_call 197;refine(HR.o _).mono ?_;rintro e w' ⟨rfl,rfl⟩));exact bodyPost_ret (v:=.tuple #[.agg #[.int .i64 7,.string (s.extract 1 (u+1)),.int .i64 0,.int .i64 0,.int .i64 0,.int .i64 0],.int .i64 (u+2),.int .i64 0]) (by simp[results,Tryz.results159,go_sem]) rfl ⟨by rw[hR.o,QBd];rfl,Bq⟩
 have KU:=hid (show Q2b s.data.toList=if n > 0 then(⟨4,s.data.toList.take n,0,0,0⟩,n,0)else(⟨0,[],0,0,0⟩,0,20)from by rw[hF.o,if_neg (by rw[QOh];exact hw)]);have qk:u=0∨(0<u∧¬u+1<s.size)∨(0<u∧∃g:u+1<s.size,((s[u+1].toNat:Int)==47)=false):=by
  by_cases a:0<u
  ·by_cases b:u+1<s.size
   ·refine .inr (.inr ⟨a,b,?_⟩);rw[Qqg s _ b]at hw;simp;intro hx;exact hw ⟨a,b,by omega⟩
   exact .inr (.inl ⟨a,b⟩)
  exact .inl (by omega)
 clear hw;by_cases M9:0<n
 ·have hR:=hid (show Q2b s.data.toList=(⟨4,s.data.toList.take n,0,0,0⟩,n,0)from by rw[KU.o,if_pos M9]);rcases qk with rfl|⟨g,g'⟩|⟨g,g',g2⟩
  all_goals
   go_enter func159,ntmps159;go_wp2_with(first | (go_at_call 93;refine(QMa _ _).mono ?_;rintro e w' ⟨rfl,rfl⟩) | (go_at_call 180;refine(Qeb _ _).mono ?_;rintro e w' ⟨rfl,rfl⟩) | (go_at_call 192;refine(HU.o _).mono ?_;rintro e w' ⟨rfl,rfl⟩) | (go_at_call 197;refine(HR.o _).mono ?_;rintro e w' ⟨rfl,rfl⟩));exact bodyPost_ret (v:=.tuple #[.agg #[.int .i64 4,.string (s.extract 0 n),.int .i64 0,.int .i64 0,.int .i64 0,.int .i64 0],.int .i64 n,.int .i64 0]) (by simp[results,Tryz.results159,go_sem]) rfl ⟨by rw[hR.o,QBd];rfl,Bq⟩
 have M9:n=0:=by omega
 subst M9;have hR:=hid (show Q2b s.data.toList=(⟨0,[],0,0,0⟩,0,20)from by rw[KU.o,if_neg (by omega)]);rcases qk with rfl|⟨g,g'⟩|⟨g,g',g2⟩
 all_goals
  go_enter func159,ntmps159;go_wp2_with(first | (go_at_call 93;refine(QMa _ _).mono ?_;rintro e w' ⟨rfl,rfl⟩) | (go_at_call 180;refine(Qeb _ _).mono ?_;rintro e w' ⟨rfl,rfl⟩) | (go_at_call 192;refine(HU.o _).mono ?_;rintro e w' ⟨rfl,rfl⟩) | (go_at_call 197;refine(HR.o _).mono ?_;rintro e w' ⟨rfl,rfl⟩));exact bodyPost_ret (v:=.tuple #[.agg #[.int .i64 0,.string ⟨#[]⟩,.int .i64 0,.int .i64 0,.int .i64 0,.int .i64 0],.int .i64 0,.int .i64 20]) (by simp[results,Tryz.results159,go_sem]) rfl ⟨by rw[hR.o];rfl,Bq⟩
theorem QGo(s:ByteArray)(w:World)(hs:s.size≤140737488355328)(h1:0<s.size):Calls prog 159 #[.string s] w (Qnd s w):=by
 by_cases hc:QIa s[0].toNat=true∨(s[0].toNat:Int)=95∨(s[0].toNat:Int)=35
 ·exact Q2p s w hs h1 hc
 cases hd:QKc s[0].toNat
 ·by_cases hq:(s[0].toNat:Int)=34
  ·exact Qam s w hs h1 hc hd hq
  by_cases bF:(s[0].toNat:Int)=47
  ·exact Q4p s w hs h1 hc hd hq bF
  by_cases Jw:(s[0].toNat:Int)=38∧1<s.size∧(QIa (s.data.toList.getD 1 0).toNat=true∨(s.data.toList.getD 1 0).toNat=95)
  ·obtain⟨a,b,c⟩:=Jw;rw[Qqg s 1 b]at c;exact Q2r s w hs h1 hc hd hq a b (by rcases c with c|c;exact .inl c;right;omega)
  exact Q3p s w hs h1 hc hd hq Jw bF
 exact Q6n s w hs h1 hc hd
def Qhc(file:Int)(t:Tok):List Value:=[.int .i64 t.kind,.string ⟨t.text.toArray⟩,.int .i64 t.value,.int .i64 file,.int .i64 t.line,.int .i64 t.col]
def Qfc(file:Int)(l:List Tok):List Value:=l.flatMap (Qhc file)
def QYk(p:Int × Int × Int):Value:=.agg #[.int .i64 p.1,.int .i64 p.2.1,.int .i64 p.2.2]
theorem Qpf(file:Int)(l:List Tok)(t:Tok):Qfc file (l++[t])=Qfc file l++Qhc file t:=by simp[Qfc]
theorem QSq(file:Int)(t:Tok):∀u∈Qhc file t,u.oneCell'=true:=by
 intro u hu;simp only[Qhc,List.mem_cons,List.not_mem_nil,or_false]at hu;rcases hu with rfl|rfl|rfl|rfl|rfl|rfl <;> rfl
def Qlj(s:ByteArray)(file:Int)(w:World)(e:Ending)(w':World):Prop:=
 ∃v,e=.returned (.tuple #[v,QYk (QZc s.data.toList file).2.1,.int .i64 (QZc s.data.toList file).2.2])∧
  w'.ownsRow w.heap.size 150 6 v (QZc s.data.toList file).1.length (Qfc file (QZc s.data.toList file).1)∧Below w.heap.size w w'
theorem Qbg{w:World}{base:Nat}{e:TypeId}{size:Nat}{v:Value}{n:Nat}{xs:List Value}(h:w.ownsRow base e size v n xs):∃a cap,v=.slice a n cap:=by
 rcases h.2 with⟨rfl,rfl⟩|⟨g,cap,cur,rfl,_⟩
 ·exact⟨none,0,rfl⟩
 exact⟨_,_,rfl⟩
theorem Qvd{w:World}{base base':Nat}{e:TypeId}{size:Nat}{v:Value}{n:Nat}{xs:List Value}(h:w.ownsRow base e size v n xs)(hb:base'≤base):w.ownsRow base' e size v n xs:=by
 refine⟨h.1,?_⟩;rcases h.2 with hn|⟨g,cap,cur,rfl,hg,r⟩
 ·exact .inl hn
 exact .inr ⟨g,cap,cur,rfl,by omega,r⟩
theorem tri{w:World}{b:Nat}{x0 x1 x2:Value}{t:TypeId}(h:Holds w b #[x0,x1,x2] t) :
 w.cell? ⟨b,0,none⟩=some x0∧w.cell? ⟨b,1,none⟩=some x1∧w.cell? ⟨b,2,none⟩=some x2∧w.frozen? ⟨b,0,none⟩=false∧w.frozen? ⟨b,1,none⟩=false∧w.frozen? ⟨b,2,none⟩=false:=
 ⟨h.cell 0,h.cell 1,h.cell 2,h.free 0,h.free 1,h.free 2⟩
section
variable{file:Int}{f:Nat}{l:List UInt8}{p:Int × Int}{acc:List Tok}{B:Nat × Bool}
theorem Qzt(hB:blk l.length l=B)(h:B.2=true):rdA file (f+1) l p acc=([],(file,(adv (l.take B.1) p).1,(adv (l.take B.1) p).2),21):=by
 subst hB;simp only[rdA];rw[if_pos h]
theorem Qes(hB:blk l.length l=B)(h:B.2=false)(h2:acc.length=6000):rdA file (f+1) l p acc=([],(file,(adv (l.take B.1) p).1,(adv (l.take B.1) p).2),3):=by
 subst hB;simp only[rdA];rw[if_neg (by simp[h]),if_pos h2]
theorem QAt(hB:blk l.length l=B)(h:B.2=false)(h2:acc.length≠6000)(h3:l.drop B.1=[]):rdA file (f+1) l p acc=(acc++[⟨8,[],0,(adv (l.take B.1) p).1,(adv (l.take B.1) p).2⟩],(0,0,0),0):=by
 subst hB;simp only[rdA];rw[if_neg (by simp[h]),if_neg h2,if_pos h3]
theorem QBt(hB:blk l.length l=B)(h:B.2=false)(h2:acc.length≠6000)(h3:l.drop B.1≠[]){t:Tok × Nat × Int}(ht:Q2b (l.drop B.1)=t)(h4:t.2.2≠0):rdA file (f+1) l p acc=([],(file,(adv (l.take B.1) p).1,(adv (l.take B.1) p).2),t.2.2):=by
 subst hB ht;simp only[rdA];rw[if_neg (by simp[h]),if_neg h2,if_neg h3,if_pos h4]
theorem Qju(hB:blk l.length l=B)(h:B.2=false)(h2:acc.length≠6000)(h3:l.drop B.1≠[]){t:Tok × Nat × Int}(ht:Q2b (l.drop B.1)=t)(h4:t.2.2=0) :
 rdA file (f+1) l p acc=rdA file f ((l.drop B.1).drop t.2.1) (adv ((l.drop B.1).take t.2.1) (adv (l.take B.1) p)) (acc++[{ t.1 with line:=(adv (l.take B.1) p).1,col:=(adv (l.take B.1) p).2 }]):=by
 subst hB ht;simp only[rdA];rw[if_neg (by simp[h]),if_neg h2,if_neg h3,if_neg (by simp[h4])]
end
def Q5u(s:ByteArray)(file:Int)(w:World)(R:List Tok × (Int × Int × Int) × Int)(f:Nat)(v:Value)(wr:World):Prop:=
 ∃(j:Nat) (l c:Int) (toks:List Tok),j≤s.size∧s.size<j+f∧1≤l∧l≤j+1∧1≤c∧c≤j+1∧rdA file f (s.data.toList.drop j) (l,c) toks=R∧toks.length≤6000∧
  wr.ownsRow (w.heap.size+2) 150 6 v toks.length (Qfc file toks)∧Holds wr (w.heap.size+1) (Qjc s j file l c) 183∧Holds wr w.heap.size #[.int .i64 0,.int .i64 0,.int .i64 0] 79∧Below w.heap.size w wr
theorem QKp:(prog.info? 150).map (fun i=>(i.zero,i.size,i.bytes))=some (some (.agg #[.int .i64 0,.string ⟨#[]⟩,.int .i64 0,.int .i64 0,.int .i64 0,.int .i64 0]),6,56):=by kernel_rfl
theorem QFo(s:ByteArray)(file:Int)(w:World)(hs:s.size≤maxLen)(h0:Qah w) :
 Calls prog 120 #[.string s,.int .i64 file] w (Qlj s file w):=by
 unfold maxLen at hs;by_cases Jv:16000<s.size
 ·have hF:=hid (show QZc s.data.toList file=([],(0,0,0),3)from by unfold QZc;rw[QOh,if_pos Jv]);go_enter func120,ntmps120;go_wp2_with fail;exact bodyPost_ret (v:=.tuple #[.slice none 0 0,.agg #[.int .i64 0,.int .i64 0,.int .i64 0],.int .i64 3]) (by simp[results,Tryz.results120,go_sem]) rfl ⟨_,by rw[hF.o];rfl,by rw[hF.o];exact World.ownsRow_nil _ _ _ _,Bq⟩
 have Jv:s.size≤16000:=by omega
 have hF:QZc s.data.toList file=rdA file (s.size+1) s.data.toList (1,1) []:=by unfold QZc;rw[QOh,if_neg (by omega)]
 unfold Qlj;generalize QZc s.data.toList file=R at hF;have HF:=hid hF;clear hF;go_enter func120,ntmps120;go_wp2_with fail;go_loopg [8] (s.size+1) (fun f v wr=>Q5u s file w R f v wr)
 case atStart=>exact⟨0,1,1,[],by omega,by omega,by omega,by omega,by omega,by omega,HF.o.symm,by simp,World.ownsRow_nil _ _ _ _,by
  have:=Holds.new (w.alloc (.cells #[.int .i64 0,.int .i64 0,.int .i64 0] 79)) (Qjc s 0 file 1 1) 183;rw[show(w.alloc (.cells #[.int .i64 0,.int .i64 0,.int .i64 0] 79)).heap.size=w.heap.size+1 from by simp]at this;exact this,(Holds.new w _ _).alloc _,(Bq).alloc (by simp) _⟩
 case round=>
  obtain⟨j,l,c,toks,hj,hf,GO,gS,gy,gh,hE,iG,Hi,hH,hP,kL⟩:=hrel;obtain⟨f,rfl⟩:∃f',gk=f'+1:=⟨gk-1,by omega⟩;have zQ:Qah wr:=h0.fr kL;have MG:=Qml s j file l c (w.heap.size+1) wr hH hj Jv GO gS gy gh zQ;unfold QKf at MG;have Ko:=QBr s j (s.size-j) hj;have mQ:blk (s.data.toList.drop j).length (s.data.toList.drop j)=blk (s.size-j) (s.data.toList.drop j):=by congr 1;simp
  generalize blk (s.size-j) (s.data.toList.drop j)=B at MG Ko mQ;obtain⟨bn,bx⟩:=B;simp only at MG Ko;have GD:=QWo ((s.data.toList.drop j).take bn) (l,c) GO gy;have jm:((s.data.toList.drop j).take bn).length≤bn:=by simp;omega
  have KD:=@Qzt file f (s.data.toList.drop j) (l,c) toks _ mQ;have kI:=@Qes file f (s.data.toList.drop j) (l,c) toks _ mQ;have GK:=@QAt file f (s.data.toList.drop j) (l,c) toks _ mQ;have GL:=@QBt file f (s.data.toList.drop j) (l,c) toks _ mQ;have GM:=@Qju file f (s.data.toList.drop j) (l,c) toks _ mQ;simp only at KD kI GK GL GM GD;rw[List.drop_drop]at GK GL GM;rw[hE]at KD kI GK GL GM;generalize adv ((s.data.toList.drop j).take bn) (l,c)=p1 at MG GD KD kI GK GL GM;obtain⟨l1,c1⟩:=p1;simp only at MG GD KD kI GK GL GM;obtain⟨k1,k2,k3,k4⟩:=GD;have k3':l1≤(j+bn:Nat)+1:=by omega
  have k4':c1≤(j+bn:Nat)+1:=by omega
  clear hE k3 k4 jm mQ;generalize Ge:j+bn=j2 at MG Ko GK GL GM k3' k4';have hjj:j≤j2:=by omega
  clear Ge;have HC:=hid KD;clear KD;have MY:=hid kI;clear kI;have l4:=hid GK;clear GK;have vW:=hid GL;clear GL;have vX:=hid GM;clear GM;have yG:=hid MG;clear MG;obtain⟨ao,cap,rfl⟩:=Qbg Hi;go_wp2_with fail;refine yG.o.mono ?_;rintro e w1 ⟨rfl,mw,Gh⟩;have JC:=hP.keeps Gh (by omega);have Hb:Below w.heap.size w w1:=kL.trans (Gh.below kL.size (by intro i hi;omega));have kY:=Qca Hi Gh (by intro g hg;have:=(Hi.lt g hg).1;omega);have Gn:=Gh.size;have Jp:=mw.lt;have kA:=QUe mw;obtain⟨q0,q1,q2,q3,q4,q5⟩:=tri JC;obtain⟨r0,r1,r2,r3,r4,r5,r6,r7,r8,r9⟩:=QUe mw;clear kA;cases bx with
  | true=>
   have hR:=hid (HC.o rfl);go_wp2_with fail;go_region;go_wp2_with fail;exact bodyPost_ret (v:=.tuple #[.slice none 0 0,.agg #[.int .i64 file,.int .i64 l1,.int .i64 c1],.int .i64 21]) (by simp[results,Tryz.results120,go_sem,q0,q1,q2]) rfl ⟨_,by rw[hR.o];rfl,by rw[hR.o];exact World.ownsRow_nil _ _ _ _,(((Hb.setCell (Nat.le_refl _) _).setCell (Nat.le_refl _) _).setCell (Nat.le_refl _) _).drew⟩
  | false=>
   by_cases h6:toks.length=6000
   ·have h6':((toks.length:Int)==6000)=true:=by simp[h6]
    have hR:=hid (MY.o rfl h6);clear h6;go_wp2_with fail;go_region;go_wp2_with fail;exact bodyPost_ret (v:=.tuple #[.slice none 0 0,.agg #[.int .i64 file,.int .i64 l1,.int .i64 c1],.int .i64 3]) (by simp[results,Tryz.results120,go_sem,q0,q1,q2]) rfl ⟨_,by rw[hR.o];rfl,by rw[hR.o];exact World.ownsRow_nil _ _ _ _,(((Hb.setCell (Nat.le_refl _) _).setCell (Nat.le_refl _) _).setCell (Nat.le_refl _) _).drew⟩
   have h6':((toks.length:Int)==6000)=false:=by simp;omega
   have h6b:toks.length<6000:=by omega
   have H6:=hid h6;clear h6;have GV:=fun wx hh=>Q9i s j2 file l1 c1 (w.heap.size+1) wx hh Ko (by unfold maxLen;omega);by_cases hend:j2=s.size
   ·have hR:=hid (l4.o rfl H6.o (QFc s j2 (by omega)));subst hend;have he:s.extract s.size s.size=ByteArray.empty:=Qeh _ (by simp);rw[he]at GV;have jB:=hid GV;clear GV he;go_wp2_with fail;refine(jB.o _ mw).mono ?_;rintro e w2 ⟨rfl,nd,rfl⟩;obtain⟨i0,hi,Hz,Ho,H4⟩:=info_parts QKp;go_wp2_with(at_builtin;refine wpList_append_own _ rfl _ _ 142 rfl (w.heap.size+2) 150 i0 _ 6 56 underlying142 hi Hz Ho H4 rfl (by decide) _ _ _ rfl (kY.alloc _) ⟨w1.heap.size,0,none⟩ 1 1 (Qhc file ⟨8,[],0,l1,c1⟩) rfl rfl ?c1 ?c2 ?c3 ?c4 ?c5 ?_)
    case c1=>exact Q8a (w1.drewN nd) _ _ _ rfl _ rfl
    case c2=>exact QSq _ _
    case c3=>unfold maxLen;omega
    case c4=>omega
    case c5=>have:=JC.lt;simp;omega
    intro v' w3 Hj Hd _;have Jq:∀g,(Value.slice ao toks.length cap).ownBlock=some g→w.heap.size+2≤g:=fun g hg=>(kY.lt g hg).1;have bI:Holds w3 w.heap.size #[.int .i64 0,.int .i64 0,.int .i64 0] 79:=((JC.drewN nd).alloc _).grown Hd (fun e=>by have:=Jq _ e;omega);have Hg:Below w.heap.size w w3:=((below_drewN Hb nd).alloc (by simpa using Hb.size) _).grown Hd (by have:=Hb.size;simp;omega) (fun g hg=>by have:=Jq g hg;omega);obtain⟨p0,p1,p2,p3,p4,p5⟩:=tri bI;have H7:w3.ownsRow w.heap.size 150 6 v' (toks.length+1) (Qfc file (toks++[⟨8,[],0,l1,c1⟩])):=by rw[Qpf];exact Qvd Hj (by omega)
    have uZ:∀g,v'.ownBlock=some g→¬g=w.heap.size:=fun g hg=>by have:=(Hj.lt g hg).1;omega
    clear Hj Hd;obtain⟨ao',cap',rfl⟩:=Qbg H7;go_wp2_with fail;exact bodyPost_ret (v:=.tuple #[.slice ao' (toks.length+1) cap',.agg #[.int .i64 0,.int .i64 0,.int .i64 0],.int .i64 0]) (by simp[results,Tryz.results120,go_sem,p0,p1,p2]) rfl ⟨_,by rw[hR.o];rfl,by
     rw[hR.o];simp only[List.length_append,List.length_singleton];exact Qca H7 ((((Qaa.refl (fun i=>i=w.heap.size) w3).setCell (.inr rfl) _).setCell (.inr rfl) _).setCell (.inr rfl) _) uZ,
     ((Hg.setCell (Nat.le_refl _) _).setCell (Nat.le_refl _) _).setCell (Nat.le_refl _) _⟩
   have Ge:j2<s.size:=by omega
   have Jq:=QEc s j2;have hsz:(s.extract j2 s.size).size=s.size-j2:=by simp
   have ut:s.data.toList.drop j2≠[]:=by rw[Qdb s j2 Ge];simp
   have gD:=fun wx=>QGo (s.extract j2 s.size) wx (by omega) (by omega);unfold Qnd at gD;rw[Jq]at gD;have KJ:=Q4n (s.data.toList.drop j2) ut;have qb:=fun n hn wx hh=>Qdj s j2 n file l1 c1 (w.heap.size+1) wx hh hn (by omega) k1 k3' k2 k4';have JR:=hid (fun h=>vW.o rfl H6.o ut rfl h);have JS:=hid (fun h=>vX.o rfl H6.o ut rfl h);clear vW vX l4 MY HC;simp only[List.length_drop]at KJ;generalize Q2b (s.data.toList.drop j2)=T at gD KJ JR JS;generalize s.extract j2 s.size=r at GV hsz gD;have bV:0<r.size:=by omega
   have Hl:=QLe r bV;have kM:=QJc r bV;obtain⟨tk,tn,te⟩:=T;simp only at gD KJ JR JS;have jB:=hid GV;clear GV;have JY:=hid gD;clear gD;have HSZ:=hid hsz;clear hsz;have nC:=hid qb;clear qb;clear hend Jq;by_cases hte:te=0
   ·subst hte;obtain⟨t1,t2⟩:=KJ rfl;have t2':j2+tn≤s.size:=by rw[QOh]at t2;omega
    have hR:=hid (JS.o rfl);clear JR JS KJ t2;go_wp2_with fail;refine(jB.o _ mw).mono ?_;rintro e w2 ⟨rfl,nd,rfl⟩;go_wp2_with fail;refine(jB.o _ (mw.drewN nd)).mono ?_;rintro e w2 ⟨rfl,nd2,rfl⟩;go_wp2_with fail;refine(JY.o _).mono ?_;rintro e w2 ⟨rfl,KC⟩;have mR:Below w1.heap.size w1 w2:=⟨KC.os,KC.tape,KC.output,KC.size,KC.block⟩;unfold QKb;have ef:Qaa (fun _=>False) w1 w2:=Qaa.of_fresh mR _;have Gl:=mw.keeps ef (fun e=>e);have mF:=JC.keeps ef (fun e=>e);have H7:=Qca kY ef (fun _ _ e=>e);have Hc:Below w.heap.size w w2:=Hb.trans (mR.mono Hb.size);have Gx:=ef.size;clear KC r0 r1 r2 r3 r4 r5 r6 r7 r8 r9;obtain⟨r0,r1,r2,r3,r4,r5,r6,r7,r8,r9⟩:=QUe Gl;have GI:=Gl.lt;obtain⟨i0,hi,Hz,Ho,H4⟩:=info_parts QKp;go_wp2_with(at_builtin;refine wpList_append_own _ rfl _ _ 142 rfl (w.heap.size+2) 150 i0 _ 6 56 underlying142 hi Hz Ho H4 rfl (by decide) _ _ _ rfl ((H7.alloc _).alloc _) ⟨w2.heap.size+1,0,none⟩ 1 1 (Qhc file { tk with line:=l1,col:=c1 }) rfl rfl ?c1 ?c2 ?c3 ?c4 ?c5 ?_)
    case c1=>exact Q8a _ _ _ _ (by simp) _ rfl
    case c2=>exact QSq _ _
    case c3=>unfold maxLen;omega
    case c4=>omega
    case c5=>have:=JC.lt;have:=Hc.size;simp;omega
    intro v' w3 Hj Hd _;have Jq:∀g,(Value.slice ao toks.length cap).ownBlock=some g→w.heap.size+2≤g:=fun g hg=>(kY.lt g hg).1;have bI:Holds w3 w.heap.size #[.int .i64 0,.int .i64 0,.int .i64 0] 79:=((mF.alloc _).alloc _).grown Hd (fun e=>by have:=Jq _ e;omega);have ME:Holds w3 (w.heap.size+1) (Qjc s j2 file l1 c1) 183:=((Gl.alloc _).alloc _).grown Hd (fun e=>by have:=Jq _ e;omega);have Hg:Below w.heap.size w w3:=((Hc.alloc Hc.size _).alloc (by have:=Hc.size;simp;omega) _).grown Hd (by have:=Hc.size;simp;omega) (fun g hg=>by have:=Jq g hg;omega);have mi:w3.ownsRow (w.heap.size+2) 150 6 v' (toks.length+1) (Qfc file (toks++[{ tk with line:=l1,col:=c1 }])):=by rw[Qpf];exact Hj
    have uZ:∀g,v'.ownBlock=some g→¬g=w.heap.size+1:=fun g hg=>by have:=(Hj.lt g hg).1;omega
    clear Hj Hd;have KE:=ME.lt;clear r0 r1 r2 r3 r4 r5 r6 r7 r8 r9;go_wp2_with fail;refine(nC.o tn t2' _ ME).mono ?_;rintro e w4 ⟨rfl,zN,KA⟩;have bJ:=bI.keeps KA (by omega);have Hu:Below w.heap.size w w4:=Hg.trans (KA.below Hg.size (by intro i hi;omega));have Gs:=Qca mi KA uZ;go_wp2_with fail;go_roundg f
    case measure=>omega
    case rel=>
     have GD:=QWo ((s.data.toList.drop j2).take tn) (l1,c1) k1 k2;have Mp:((s.data.toList.drop j2).take tn).length≤tn:=by simp;omega
     have kZ:=hR.o.symm;rw[List.drop_drop]at kZ;exact⟨j2+tn,_,_,toks++[{ tk with line:=l1,col:=c1 }],t2',by omega,GD.1,by simp at GD;omega,GD.2.1,by simp at GD;omega,kZ,by simp;omega,by simpa using Gs,zN,bJ,Hu⟩
   have hR:=hid (JR.o hte);have hte':(te != 0)=true:=by simpa using hte
   clear JR JS KJ hte;go_wp2_with fail;refine(jB.o _ mw).mono ?_;rintro e w2 ⟨rfl,nd,rfl⟩;go_wp2_with fail;refine(jB.o _ (mw.drewN nd)).mono ?_;rintro e w2 ⟨rfl,nd2,rfl⟩;go_wp2_with fail;refine(JY.o _).mono ?_;rintro e w2 ⟨rfl,KC⟩;have mR:Below w1.heap.size w1 w2:=⟨KC.os,KC.tape,KC.output,KC.size,KC.block⟩;unfold QKb;have ef:Qaa (fun _=>False) w1 w2:=Qaa.of_fresh mR _;have Gl:=mw.keeps ef (fun e=>e);have mF:=JC.keeps ef (fun e=>e);have Hc:Below w.heap.size w w2:=Hb.trans (mR.mono Hb.size);have Gx:=ef.size;clear KC r0 r1 r2 r3 r4 r5 r6 r7 r8 r9 q0 q1 q2 q3 q4 q5;obtain⟨q0,q1,q2,q3,q4,q5⟩:=tri mF;obtain⟨r0,r1,r2,r3,r4,r5,r6,r7,r8,r9⟩:=QUe Gl;have GI:=Gl.lt;have uV:=mF.lt;go_wp2_with fail;go_region;go_wp2_with fail;exact bodyPost_ret (v:=.tuple #[.slice none 0 0,.agg #[.int .i64 file,.int .i64 l1,.int .i64 c1],.int .i64 te]) (by simp[results,Tryz.results120,go_sem,q0,q1,q2,uV]) rfl ⟨_,by rw[hR.o];rfl,by rw[hR.o];exact World.ownsRow_nil _ _ _ _,((((Hc.setCell (Nat.le_refl _) _).setCell (Nat.le_refl _) _).setCell (Nat.le_refl _) _).alloc (by simpa using Hc.size) _).drew⟩
theorem QIt{w:World}{base:Nat}{T:TypeId}{v:Value}{file:Int}{toks:List Tok}(h:w.ownsRow base T 6 v toks.length (Qfc file toks))(Hl:toks≠[]) :
 ∃g cap,v=.slice (some ⟨g,0,none⟩) toks.length cap∧base≤g∧g<w.heap.size∧toks.length≤cap∧∀(i:Nat) (t:Tok),toks[i]? = some t→∀(k:Nat) (u:Value),(Qhc file t)[k]? = some u→w.cell? ⟨g,6*i+k,none⟩=some u:=by
 have hlen:=List.length_pos_iff.2 Hl;rcases h.2 with⟨_,h0⟩|⟨g,cap,cur,rfl,hb,hh,hcap,hr⟩
 ·omega
 refine⟨g,cap,rfl,hb,lt_of_block hh,hcap,?_⟩;intro i t ht k u hu;have hc:=h.cells (g:=g) rfl (6*i+k) u;have Gk:(⟨g,0,none⟩:Addr).add (6*i+k)=⟨g,6*i+k,none⟩:=by unfold Addr.add;split <;> simp_all
 rw[Gk]at hc;apply hc;have hk:k<6:=by
  rcases Nat.lt_or_ge k 6 with h|h
  ·exact h
  rw[List.getElem?_eq_none (by simpa[Qhc]using h)]at hu;cases hu
 clear hc hcap hr hh hb h hlen Gk Hl;unfold Qfc
 induction toks generalizing i with
 | nil=>simp at ht
 | cons a l ih=>
  rw[List.flatMap_cons];cases i with
  | zero=>
   simp at ht;subst ht;rw[List.getElem?_append_left (by simp[Qhc];omega)];simpa using hu
  | succ i=>
   rw[List.getElem?_append_right (by simp[Qhc];omega)];have:=ih i (by simpa using ht);rw[←this];congr 1;simp[Qhc];omega
def QQd(cs:List Q2g):List Value:=cs.flatMap fun c=>[.int .i64 c.value,.string c.label]
def QNc:List Qtf→List Value→List Value
 | p::ps,v::vs=>.int .i64 p.kind::v :: .string p.text::QNc ps vs
 | _,_=>[]
def QMb(file:Int):List Qrc→List Value→List Value
 | d::ds,v::vs=>.int .i64 d.kind :: .string d.label :: .string d.name::v :: .int .i64 file :: .int .i64 d.line :: .int .i64 d.col::QMb file ds vs
 | _,_=>[]
theorem Qoi(cs:List Q2g)(c:Q2g):QQd (cs++[c])=QQd cs++[.int .i64 c.value,.string c.label]:=by simp[QQd]
theorem Qkf:∀(ps:List Qtf) (vs:List Value) (p:Qtf) (v:Value),vs.length=ps.length→QNc (ps++[p]) (vs++[v])=QNc ps vs++[.int .i64 p.kind,v,.string p.text]
 | [],[],_,_,_=>rfl
 | q::ps,u::vs,p,v,h=>by simp only[QNc,List.cons_append];rw[Qkf ps vs p v (by simpa using h)]
theorem QQf(file:Int):∀(ds:List Qrc) (vs:List Value) (d:Qrc) (v:Value),vs.length=ds.length→
 QMb file (ds++[d]) (vs++[v])=QMb file ds vs++[.int .i64 d.kind,.string d.label,.string d.name,v,.int .i64 file,.int .i64 d.line,.int .i64 d.col]
 | [],[],_,_,_=>rfl
 | e::ds,u::vs,d,v,h=>by simp only[QMb,List.cons_append];rw[QQf file ds vs d v (by simpa using h)]
def Qnb(w:World)(base:Nat)(v:Value)(cs:List Q2g):Prop:=w.ownsRow base 198 2 v cs.length (QQd cs)
def QVa(w:World)(base:Nat)(v:Value)(ps:List Qtf):Prop:=
 ∃vs:List Value,vs.length=ps.length∧w.ownsRow base 196 3 v ps.length (QNc ps vs)∧∀k (h:k<ps.length) (h2:k<vs.length),Qnb w base vs[k] ps[k].cells
def QLb(w:World)(base:Nat)(file:Int)(v:Value)(D:List Qrc):Prop:=
 ∃vs:List Value,vs.length=D.length∧w.ownsRow base 123 7 v D.length (QMb file D vs)∧∀k (h:k<D.length) (h2:k<vs.length),QVa w base vs[k] D[k].parts
section
variable{w w':World}{base:Nat}{file:Int}{v:Value}{cs:List Q2g}{ps:List Qtf}{D:List Qrc}
theorem QLb.slice(h:QLb w base file v D):∃a c,v=.slice a D.length c:=by obtain⟨_,_,h,_⟩:=h;exact Qea h
theorem QVa.slice(h:QVa w base v ps):∃a c,v=.slice a ps.length c:=by obtain⟨_,_,h,_⟩:=h;exact Qea h
theorem Qnb.slice(h:Qnb w base v cs):∃a c,v=.slice a cs.length c:=Qea h
theorem Qnb.none(w:World)(base:Nat):Qnb w base (.slice none 0 0) []:=⟨rfl,.inl ⟨rfl,rfl⟩⟩
theorem QVa.none(w:World)(base:Nat):QVa w base (.slice none 0 0) []:=⟨[],rfl,⟨rfl,.inl ⟨rfl,rfl⟩⟩,fun _ h=>by cases h⟩
theorem QLb.none(w:World)(base:Nat)(file:Int):QLb w base file (.slice none 0 0) []:=⟨[],rfl,⟨rfl,.inl ⟨rfl,rfl⟩⟩,fun _ h=>by cases h⟩
def Qqc(w:World)(S:Nat→Prop):Prop:=∀b,b<w.heap.size→S b→∃xs t,Holds w b xs t∧t≠198∧t≠196∧t≠123
theorem Qle{e:TypeId}{size n b:Nat}{xs:List Value}(h:w.ownsRow base e size v n xs)(hb:v.ownBlock=some b):b<w.heap.size∧base≤b∧∃cur,Holds w b cur e:=by
 rcases h.2 with⟨rfl,_⟩|⟨g,cap,cur,rfl,hg,hh,_⟩
 ·simp[Value.ownBlock]at hb
 obtain rfl:g=b:=Option.some.inj hb;exact⟨lt_of_block hh,hg,_,hh⟩
theorem QYh{S:Nat→Prop}{e:TypeId}{size n:Nat}{xs:List Value}(h:w.ownsRow base e size v n xs)(ha:Qqc w S)(he:e=198∨e=196∨e=123):∀g,v.ownBlock=some g→¬S g:=by
 intro g hg hS;obtain⟨h1,_,cur,h2⟩:=Qle h hg;obtain⟨xs,t,h3,n1,n2,n3⟩:=ha g h1 hS;have h4:w.heap[g]? = some (.cells xs t (0,0)):=h3;have h5:w.heap[g]? = some (.cells cur e (0,0)):=h2;rw[h4]at h5;cases h5;rcases he with rfl|rfl|rfl
 ·exact n1 rfl
 ·exact n2 rfl
 exact n3 rfl
theorem Qnb.keeps{S:Nat→Prop}(h:Qnb w base v cs)(k:Qaa S w w')(ha:Qqc w S):Qnb w' base v cs:=Qca h k (QYh h ha (.inl rfl))
theorem QVa.keeps{S:Nat→Prop}(h:QVa w base v ps)(k:Qaa S w w')(ha:Qqc w S):QVa w' base v ps:=by
 obtain⟨vs,h1,h2,h3⟩:=h;exact⟨vs,h1,Qca h2 k (QYh h2 ha (.inr (.inl rfl))),fun j h h'=>(h3 j h h').keeps k ha⟩
theorem QLb.keeps{S:Nat→Prop}(h:QLb w base file v D)(k:Qaa S w w')(ha:Qqc w S):QLb w' base file v D:=by
 obtain⟨vs,h1,h2,h3⟩:=h;exact⟨vs,h1,Qca h2 k (QYh h2 ha (.inr (.inr rfl))),fun j h h'=>(h3 j h h').keeps k ha⟩
theorem Qqc.one{b:Nat}{xs:Array Value}{t:TypeId}(h:Holds w b xs t)(h1:t≠198)(h2:t≠196)(h3:t≠123):Qqc w (· = b):=fun _ _ e=>by cases e;exact⟨_,_,h,h1,h2,h3⟩
theorem Qqc.nil(w:World):Qqc w (fun _=>False):=fun _ _ e=>e.elim
theorem Qnb.lower{b2:Nat}(h:Qnb w base v cs)(hb:b2≤base):Qnb w b2 v cs:=Q1b h hb
theorem QVa.lower{b2:Nat}(h:QVa w base v ps)(hb:b2≤base):QVa w b2 v ps:=by
 obtain⟨vs,h1,h2,h3⟩:=h;exact⟨vs,h1,Q1b h2 hb,fun j h h'=>(h3 j h h').lower hb⟩
end
def Qph(B:Nat)(w:World)(v:Value)(file:Int)(L:List Tok):Prop:=
 ∃g cap,v=.slice (some ⟨g,0,none⟩) L.length cap∧g<B∧∀(i:Nat) (h:i<L.length) (k:Nat) (u:Value),(Qhc file L[i])[k]? = some u→w.cell? ⟨g,6*i+k,none⟩=some u
theorem Qph.keeps{B:Nat}{w w':World}{v:Value}{file:Int}{L:List Tok}{S:Nat→Prop}(h:Qph B w v file L)(k:Qaa S w w')(hs:∀b,S b→B≤b):Qph B w' v file L:=by
 obtain⟨g,cap,e,hg,hc⟩:=h;refine⟨g,cap,e,hg,fun i hi j u hu=>?_⟩;have c:=hc i hi j u hu;exact(k.cell (p:=⟨g,6*i+j,none⟩) (World.block_lt_of_cell? w _ c) (fun e=>by have:=hs g e;omega)).trans c
structure Pln(L:List Tok):Prop where
 np:∀i,¬QKd (L.map tkX) i=⟨#[40]⟩
 k3:∀i,(tkN L i).kind≠3
 k5:∀i,(tkN L i).kind≠5
 k6:∀i,(tkN L i).kind≠6
 sq:∀i,isK L i 4 [91]=false
 inc:∀i,isK L i 7 [105,110,99,108,117,100,101]=false
 dn:∀i,isK L i 7 [100,101,108,101,116,101,45,110,111,100,101]=false
structure LOk(L:List Tok):Prop extends Pln L where
 len:L.length≤6001
 text:∀t∈L,t.text.length≤16000
 last:∃ts t,L=ts++[t]∧t.kind=8
theorem LOk.next{L:List Tok}(h:LOk L){i:Nat}(hi:i<L.length)(hk:(tkN L i).kind≠8):i+1<L.length:=by
 obtain⟨ts,t,rfl,h8⟩:=h.last;simp only[List.length_append,List.length_cons,List.length_nil]at hi ⊢;rcases Nat.lt_or_ge i ts.length with c|c
 ·omega
 exfalso;apply hk;obtain rfl:i=ts.length:=by omega
 unfold tkN;rw[List.getD_eq_getElem?_getD,List.getElem?_append_right (Nat.le_refl _)];simpa using h8
structure Qhb(w:World)(r base:Nat)(file:Int)(L:List Tok)(lv ov:Value)(i:Nat)(D:List Qrc):Prop where
 holds:Holds w r #[lv,.int .i64 i,ov,.pointer none] 148
 toks:Qph base w lv file L
 defs:QLb w base file ov D
 low:base≤r
 size:base≤w.heap.size
 lt:i<L.length
 ok:LOk L
 cnt:D.length≤i
def QNo(w:World)(r base:Nat)(file:Int)(lv x ov fp:Value)(D:List Qrc):Prop:=
 Holds w r #[lv,x,ov,fp] 148∧QLb w base file ov D∧base≤r∧base≤w.heap.size
theorem Qhb.raw{w:World}{r base:Nat}{file:Int}{L:List Tok}{lv ov:Value}{i:Nat}{D:List Qrc}(h:Qhb w r base file L lv ov i D):QNo w r base file lv (.int .i64 i) ov (.pointer none) D:=⟨h.holds,h.defs,h.low,h.size⟩
def QBb(w:World)(r:Nat)(file:Int)(L:List Tok)(lv ov:Value)(k:Nat)(c:Int):Prop:=
 ∃x f,Holds w r #[lv,x,ov,.pointer (some ⟨f,0,none⟩)] 148∧Holds w f #[.int .i64 file,.int .i64 (tkN L k).line,.int .i64 (tkN L k).col,.int .i64 c] 153
theorem Qzd{w:World}{a b:Nat}{xs ys:Array Value}{s t:TypeId}(h:Holds w a xs s)(k:Holds w b ys t)(Hl:s≠t):a≠b:=by
 rintro rfl;have h1:w.heap[a]? = some (.cells xs s (0,0)):=h;have h2:w.heap[a]? = some (.cells ys t (0,0)):=k;rw[h1]at h2;cases h2;exact Hl rfl
theorem QBb.keeps{w w':World}{r:Nat}{file:Int}{L:List Tok}{lv ov:Value}{k:Nat}{c:Int}{S:Nat→Prop}(h:QBb w r file L lv ov k c)(K:Qaa S w w')(hs:∀b,S b→∃xs t,Holds w b xs t∧t≠148∧t≠153):QBb w' r file L lv ov k c:=by
 obtain⟨x,f,h1,h2⟩:=h;refine⟨x,f,h1.keeps K (fun e=>?_),h2.keeps K (fun e=>?_)⟩
 ·obtain⟨xs,t,h3,n1,_⟩:=hs r e;exact Qzd h3 h1 n1 rfl
 obtain⟨xs,t,h3,_,n2⟩:=hs f e;exact Qzd h3 h2 n2 rfl
theorem QBb.one{w w':World}{r B:Nat}{file:Int}{L:List Tok}{lv ov:Value}{k:Nat}{c:Int}{xs:Array Value}{t:TypeId}(h:QBb w r file L lv ov k c)(hB:Holds w B xs t)(n1:t≠148)(n2:t≠153)(K:Qaa (· = B) w w'):QBb w' r file L lv ov k c:=
 h.keeps K (fun b e=>by cases e;exact⟨xs,t,hB,n1,n2⟩)
theorem QBb.new{w w':World}{r:Nat}{file:Int}{L:List Tok}{lv ov:Value}{k:Nat}{c:Int}(h:QBb w r file L lv ov k c)(K:Qaa (fun _=>False) w w'):QBb w' r file L lv ov k c:=h.keeps K (fun _ e=>e.elim)
end Go.Proofs.YtgaboghigefgbaaGreatDoor
