/- Contracts of name, Name, Label, hex, sign, escape, number of token. | Contracts of sign and escape of token. | Contracts of the small functions of the reference of token. | Contracts of the reference's reader: step, starts, ends. -/
import Derived.Test.YtofhcgbihonckaaGreatY3
import Derived.Test.YtofhcgbihonckaaGreatY4
import Derived.Test.YtofhcgbihonckaaGreatY6
set_option linter.all false
set_option maxHeartbeats 8000000
namespace Go.Proofs.YtofhcgbihonckaaGreat
open Go.Lib (hid)
open Go.RowKit
theorem Qbd:QRh 87 QIa:=fun c w _ _=>Q8e c w
theorem Qvj:QRh 91 QQa:=fun c w _ _=>Qyj c w
theorem Quj:QRh 82 Qrb:=by
 intro c w _ _
 go_enter Tryz.func82,Tryz.ntmps82
 go_wp2
 all_goals (go_ret;exact⟨Qka (by unfold Qrb;rw[Bool.eq_iff_iff];simp <;> omega),rfl⟩)
theorem Qcd(c:Int)(w:World)(h0:0≤c)(h1:c≤255) :
 Calls Tryz.prog 119 #[.int .u8 c] w fun e w'=>e = .returned (.int .i64 (Qjc c))∧w=w':=by
 by_cases hd:48≤c∧c≤57
 ·have hd':QOa c=true:=by unfold QOa;simpa using hd
  obtain⟨ha,hb⟩:=hd
  go_enter Tryz.func119,Tryz.ntmps119
  go_wp2_with (first | (go_at_call 88;refine(QMa _ _).mono ?_;rintro e w' ⟨rfl,rfl⟩))
  go_ret
  exact⟨QDb (by unfold Qjc;rw[if_pos ⟨ha,hb⟩]),rfl⟩
 ·have hd':QOa c=false:=by unfold QOa;simpa using hd
  have HD:=hid hd;clear hd
  by_cases h2:97≤c∧c≤102
  ·obtain⟨ha,hb⟩:=h2
   go_enter Tryz.func119,Tryz.ntmps119
   go_wp2_with (first | (go_at_call 88;refine(QMa _ _).mono ?_;rintro e w' ⟨rfl,rfl⟩))
   go_ret
   exact⟨QDb (by unfold Qjc;rw[if_neg HD.out,if_pos ⟨ha,hb⟩];omega),rfl⟩
  ·by_cases h3:65≤c∧c≤70
   ·have h2':c<97:=by omega
    have H2:=hid h2;clear h2
    obtain⟨ha,hb⟩:=h3
    go_enter Tryz.func119,Tryz.ntmps119
    go_wp2_with (first | (go_at_call 88;refine(QMa _ _).mono ?_;rintro e w' ⟨rfl,rfl⟩))
    go_ret
    exact⟨QDb (by unfold Qjc;rw[if_neg HD.out,if_neg H2.out,if_pos ⟨ha,hb⟩];omega),rfl⟩
   ·have hf:Hid (Qjc c = -1):=by show _=_;unfold Qjc;rw[if_neg HD.out,if_neg h2,if_neg h3]
    go_enter Tryz.func119,Tryz.ntmps119
    go_wp2_with (first | (go_at_call 88;refine(QMa _ _).mono ?_;rintro e w' ⟨rfl,rfl⟩))
    all_goals first | (exfalso;omega) | (go_ret;exact⟨QDb hf.out.symm,rfl⟩)
theorem QAc:∀args w,(callFunc 87 args).run Tryz.prog w = .ok (.enter 87 args) w:=enters_of Tryz.func87 (by kernel_rfl) rfl
theorem Q4h:∀args w,(callFunc 91 args).run Tryz.prog w = .ok (.enter 91 args) w:=enters_of Tryz.func91 (by kernel_rfl) rfl
theorem Q3h:∀args w,(callFunc 82 args).run Tryz.prog w = .ok (.enter 82 args) w:=enters_of Tryz.func82 (by kernel_rfl) rfl
theorem Qxj(s:ByteArray)(w:World)(hs:s.size≤maxLen) :
 Calls Tryz.prog 53 #[.string s] w fun e w'=>e = .returned (.bool (Qna s.data.toList))∧w=w':=by
 have hs':=hs
 unfold maxLen at hs'
 have hF:=hid (show Qna s.data.toList=(decide (1≤s.size∧s.size≤31) && !QOa (s.data.toList.headD 0).toNat && Qaf QIa s.data.toList)from by unfold Qna;simp)
 by_cases h1:1≤s.size
 ·by_cases h2:s.size≤31
  ·have hH:=hid (Q9b s h1)
   by_cases hl:QOa s[0].toNat=true
   ·go_enter Tryz.func53,Tryz.ntmps53
    go_wp2_with (first | (go_at_call 88;refine(QMa _ _).mono ?_;rintro e w' ⟨rfl,rfl⟩) | (go_at_call 86;refine(QId _ 87 QIa _ Qbd QAc hs).mono ?_;rintro e w' ⟨rfl,rfl⟩))
    go_ret
    exact⟨Qka (by rw[hF.out,hH.out,hl,decide_eq_true ⟨h1,h2⟩];rfl),rfl⟩
   ·have hl:QOa s[0].toNat=false:=by simpa using hl
    go_enter Tryz.func53,Tryz.ntmps53
    go_wp2_with (first | (go_at_call 88;refine(QMa _ _).mono ?_;rintro e w' ⟨rfl,rfl⟩) | (go_at_call 86;refine(QId _ 87 QIa _ Qbd QAc hs).mono ?_;rintro e w' ⟨rfl,rfl⟩))
    go_ret
    exact⟨Qka (by rw[hF.out,hH.out,hl,decide_eq_true ⟨h1,h2⟩];rfl),rfl⟩
  ·go_enter Tryz.func53,Tryz.ntmps53
   go_wp2_with fail
   go_ret
   exact⟨Qka (by rw[hF.out,decide_eq_false (by omega)];rfl),rfl⟩
 ·go_enter Tryz.func53,Tryz.ntmps53
  go_wp2_with fail
  go_ret
  exact⟨Qka (by rw[hF.out,decide_eq_false (by omega)];rfl),rfl⟩
theorem QZg(s:ByteArray)(w:World)(_hs:s.size≤maxLen)(h1:0<s.size) :
 Calls Tryz.prog 92 #[.string s] w fun e w'=>e = .returned (.int .i64 (QHb s.data.toList))∧w=w':=by
 have hs:=_hs
 unfold maxLen at hs
 have hH:=hid (Q9b s h1)
 have hM:=hid (QZi QRc s[0].toNat (by omega) (QLb _))
 go_enter Tryz.func92,Tryz.ntmps92
 go_wp2
 go_loop [3] (fun i=>∃k:Nat,k≤8∧i = .int .i64 ↑(2*k)∧Hid (QVa.any (fun p=>Lib.hasPrefix s.data.toList p)=(QVa.drop k).any (fun p=>Lib.hasPrefix s.data.toList p))) (fun i=>16-(intOf i).toNat)
 case atStart=>exact⟨0,Nat.zero_le _,rfl,rfl⟩
 case round=>
  obtain⟨k,hk,rfl,hB⟩:=hrel
  have:k=0∨k=1∨k=2∨k=3∨k=4∨k=5∨k=6∨k=7∨k=8:=by omega
  rcases this with rfl|rfl|rfl|rfl|rfl|rfl|rfl|rfl|rfl
  rotate_right
  ·go_wp2_with (first | (go_at_call 80;refine(Tryz.strings_HasPrefix _ _ _).mono ?_;rintro e w' ⟨rfl,rfl⟩) | (go_at_call 79;refine(Tryz.strings_IndexByte _ _ _).mono ?_;rintro e w' ⟨rfl,rfl⟩))
   ·have hc:Qyd QRc s[0].toNat=true:=Qmo (by assumption)
    go_ret
    exact⟨QDb (by unfold QHb;rw[hB.out,if_neg (by simp[QVa]),hH.out,if_pos hc];rfl),rfl⟩
   ·have hc:Qyd QRc s[0].toNat=false:=Qzp (by assumption)
    go_ret
    exact⟨QDb (by unfold QHb;rw[hB.out,if_neg (by simp[QVa]),hH.out,if_neg (by simp[hc])];rfl),rfl⟩
  all_goals
   go_wp2_with (first | (go_at_call 80;refine(Tryz.strings_HasPrefix _ _ _).mono ?_;rintro e w' ⟨rfl,rfl⟩) | (go_at_call 79;refine(Tryz.strings_IndexByte _ _ _).mono ?_;rintro e w' ⟨rfl,rfl⟩))
   ·go_ret
    exact⟨QDb (by unfold QHb;rw[hB.out,if_pos (by simp[QVa, *])];rfl),rfl⟩
  ·go_round
   case rel=>exact⟨1,by omega,rfl,by show _=_;rw[hB.out];simp[QVa, *]⟩
   case measure=>simp[intOf]
  ·go_round
   case rel=>exact⟨2,by omega,rfl,by show _=_;rw[hB.out];simp[QVa, *]⟩
   case measure=>simp[intOf]
  ·go_round
   case rel=>exact⟨3,by omega,rfl,by show _=_;rw[hB.out];simp[QVa, *]⟩
   case measure=>simp[intOf]
  ·go_round
   case rel=>exact⟨4,by omega,rfl,by show _=_;rw[hB.out];simp[QVa, *]⟩
   case measure=>simp[intOf]
  ·go_round
   case rel=>exact⟨5,by omega,rfl,by show _=_;rw[hB.out];simp[QVa, *]⟩
   case measure=>simp[intOf]
  ·go_round
   case rel=>exact⟨6,by omega,rfl,by show _=_;rw[hB.out];simp[QVa, *]⟩
   case measure=>simp[intOf]
  ·go_round
   case rel=>exact⟨7,by omega,rfl,by show _=_;rw[hB.out];simp[QVa, *]⟩
   case measure=>simp[intOf]
  ·go_round
   case rel=>exact⟨8,by omega,rfl,by show _=_;rw[hB.out];simp[QVa, *]⟩
   case measure=>simp[intOf]
theorem Qan(k:Nat)(x h:Int)(hk:k=1∨k=2)(hx:x*16<16 ^ k)(o8:h≤15):(16*x+h)*16<16 ^ (k+1):=by
 rcases hk with rfl|rfl <;> omega
theorem QCi(s:ByteArray)(w:World)(hs:s.size≤maxLen) :
 Calls Tryz.prog 121 #[.string s] w fun e w'=>e = .returned (.tuple #[.int .u8 (esc s.data.toList).1,.int .i64 (esc s.data.toList).2.1,.int .i64 (esc s.data.toList).2.2])∧∃n,w'=w.drewN n:=by
 unfold maxLen at hs
 by_cases h0:s.size=0
 ·obtain rfl:=QMd s h0
  clear h0
  go_enter Tryz.func121,Tryz.ntmps121
  go_wp2_with fail
  go_ret3
  exact⟨rfl,0,rfl⟩
 ·have h0:0<s.size:=by omega
  have Hq:=QIc s h0
  have Je:=Qvb s h0
  have hD:=hid (Qxa s 0 h0)
  by_cases gY:s[0].toNat=10
  ·have kO:((s[0].toNat:Int) == 10)=true:=by simp[gY]
   have hF:=hid (show esc s.data.toList=(0,0,21)from by rw[←List.drop_zero (l:=s.data.toList),hD.out];simp[esc,gY])
   clear gY
   go_enter Tryz.func121,Tryz.ntmps121
   go_wp2_with fail
   go_ret3
   exact⟨by rw[hF.out];rfl,0,rfl⟩
  ·have kO:((s[0].toNat:Int) == 10)=false:=by simp;omega
   have hF:=hid (show esc s.data.toList=if s[0].toNat=110 then(10,1,0)else if s[0].toNat=116 then(9,1,0)else if s[0].toNat=34 then(34,1,0)else if s[0].toNat=92 then(92,1,0)
  else if s[0].toNat≠120 then(0,0,6)else hx2 2 (s.data.toList.drop 1) 0 from by rw[←List.drop_zero (l:=s.data.toList),hD.out];simp only[esc];rw[if_neg gY];simp)
   clear gY
   go_enter Tryz.func121,Tryz.ntmps121
   go_wp2_with fail
   go_loopw [5] (fun i wr=>∃k nd:Nat,k≤4∧i = .int .i64 ↑(2*k)∧Hid ((1≤k→s[0].toNat≠110)∧(2≤k→s[0].toNat≠116)∧(3≤k→s[0].toNat≠34)∧(4≤k→s[0].toNat≠92))∧wr=w.drewN nd) (fun i _=>8-(intOf i).toNat)
   case atStart=>exact⟨0,0,Nat.zero_le _,rfl,by simp[Hid],rfl⟩
   case round=>
    obtain⟨k,nd,hk,rfl,hB,rfl⟩:=hrel
    have:k=0∨k=1∨k=2∨k=3∨k=4:=by omega
    rcases this with rfl|rfl|rfl|rfl|rfl
    rotate_right
    ·rw[show(((2*4:Nat):Int))=8 from rfl]
     obtain⟨b1,b2,b3,b4⟩:=hB.out
     have j7:=hid (show esc s.data.toList=if s[0].toNat≠120 then(0,0,6)else hx2 2 (s.data.toList.drop 1) 0 from by rw[hF.out,if_neg (b1 (by omega)),if_neg (b2 (by omega)),if_neg (b3 (by omega)),if_neg (b4 (by omega))])
     clear b1 b2 b3 b4
     by_cases h120:s[0].toNat=120
     ·have iw:((s[0].toNat:Int) != 120)=false:=by simp[h120]
      have tK:=hid (show esc s.data.toList=hx2 2 (s.data.toList.drop 1) 0 from by rw[j7.out,if_neg (by omega)])
      clear h120
      go_wp2_with fail
      go_loop [6,7] (fun v i=>∃k:Nat,∃x:Int,1≤k∧k≤3∧k≤s.size∧i = .int .i64 k∧v = .int .i64 x∧0≤x∧x*16<16 ^ k∧Hid (esc s.data.toList=hx2 (3-k) (s.data.toList.drop k) x)) (fun _ i=>3-(intOf i).toNat)
      case atStart=>exact⟨1,0,by omega,by omega,by omega,rfl,rfl,by omega,by omega,tK⟩
      case round=>
       obtain⟨k,x,Ht,Hc,uo,rfl,rfl,mj,kJ,hE⟩:=hrel
       by_cases Ho:k≤2
       ·by_cases hks2:k=s.size
        ·have tL:=hid (show esc s.data.toList=(0,0,21)from by rw[hE.out,Q9a s k (by omega),show 3-k=(2-k)+1 from by omega];rfl)
         have ly:((k:Int) == (s.size:Int))=true:=by simp;omega
         clear hks2
         go_wp2_with fail
         go_ret3
         exact⟨by rw[tL.out];rfl,_,rfl⟩
        ·have ly:((k:Int) == (s.size:Int))=false:=by simp;omega
         have pY:k<s.size:=by omega
         have Hm:=QVe s[k].toNat
         have k9:=hid (show esc s.data.toList=if s[k].toNat=10 then(0,0,21)else if Qjc s[k].toNat<0 then(0,0,6)else hx2 (3-(k+1)) (s.data.toList.drop (k+1)) (16*x+Qjc s[k].toNat)from by rw[hE.out,Qxa s k pY,show 3-k=(3-(k+1))+1 from by omega];rfl)
         clear hks2
         have aL:x≤15:=by
          have:k=1∨k=2:=by omega
          rcases this with rfl|rfl <;> omega
         have q9:=hid kJ;clear kJ
         by_cases k10:s[k].toNat=10
         ·have k10':((s[k].toNat:Int) == 10)=true:=by simp[k10]
          have K10:=hid k10;clear k10
          go_wp2_with (first | (go_at_call 119;refine(Qcd _ _ (by omega) (QLb _)).mono ?_;rintro e w' ⟨rfl,rfl⟩))
          go_ret3
          exact⟨by rw[k9.out,if_pos K10.out];rfl,_,rfl⟩
         ·have k10':((s[k].toNat:Int) == 10)=false:=by simp;omega
          have K10:=hid k10;clear k10
          by_cases hh:Qjc s[k].toNat<0
          ·go_wp2_with (first | (go_at_call 119;refine(Qcd _ _ (by omega) (QLb _)).mono ?_;rintro e w' ⟨rfl,rfl⟩))
           go_ret3
           exact⟨by rw[k9.out,if_neg K10.out,if_pos hh];rfl,_,rfl⟩
          ·have hh:0≤Qjc s[k].toNat:=by omega
           go_wp2_with (first | (go_at_call 119;refine(Qcd _ _ (by omega) (QLb _)).mono ?_;rintro e w' ⟨rfl,rfl⟩))
           go_round
           case rel=>exact⟨k+1,16*x+Qjc s[k].toNat,by omega,by omega,by omega,by go_num,by go_num,by omega,Qan k x _ (by omega) q9.out (by omega),by show _=_;rw[k9.out,if_neg K10.out,if_neg (by omega)]⟩
           case measure=>simp[intOf];omega
       ·obtain rfl:k=3:=by omega
        have aL:x≤255:=by omega
        have q9:=hid kJ;clear kJ
        go_wp2_with fail
        go_ret3
        exact⟨by rw[hE.out];rfl,_,rfl⟩
     ·have iw:((s[0].toNat:Int) != 120)=true:=by simp;omega
      have nT:=hid h120;clear h120
      go_wp2_with fail
      go_ret3
      exact⟨by rw[j7.out,if_pos nT.out];rfl,_,rfl⟩
    ·go_wp2_with fail
     go_quiet (fail)
     go_wp2_with fail
     ·have hc:((s[0].toNat:Int) == ((110:Nat):Int))=true:=by assumption
      go_ret3
      exact⟨by rw[hF.out,if_pos (by simp at hc;omega)];rfl,_,rfl⟩
     ·have hc:((s[0].toNat:Int) == ((110:Nat):Int))=false:=by assumption
      have hc':s[0].toNat≠110:=by simp at hc;omega
      go_roundw
      case rel=>exact⟨1,_,by omega,rfl,by have:=hB.out;refine⟨fun _=>hc',?_⟩;omega,rfl⟩
      case measure=>simp[intOf]
    ·go_wp2_with fail
     go_quiet (fail)
     go_wp2_with fail
     ·have hc:((s[0].toNat:Int) == ((116:Nat):Int))=true:=by assumption
      have hb:=hB.out
      go_ret3
      exact⟨by rw[hF.out,if_neg (by omega),if_pos (by simp at hc;omega)];rfl,_,rfl⟩
     ·have hc:((s[0].toNat:Int) == ((116:Nat):Int))=false:=by assumption
      have hc':s[0].toNat≠116:=by simp at hc;omega
      go_roundw
      case rel=>exact⟨2,_,by omega,rfl,by have:=hB.out;refine⟨?_,?_,?_⟩ <;> omega,rfl⟩
      case measure=>simp[intOf]
    ·go_wp2_with fail
     go_quiet (fail)
     go_wp2_with fail
     ·have hc:((s[0].toNat:Int) == ((34:Nat):Int))=true:=by assumption
      have hb:=hB.out
      go_ret3
      exact⟨by rw[hF.out,if_neg (by omega),if_neg (by omega),if_pos (by simp at hc;omega)];rfl,_,rfl⟩
     ·have hc:((s[0].toNat:Int) == ((34:Nat):Int))=false:=by assumption
      have hc':s[0].toNat≠34:=by simp at hc;omega
      go_roundw
      case rel=>exact⟨3,_,by omega,rfl,by have:=hB.out;refine⟨?_,?_,?_⟩ <;> omega,rfl⟩
      case measure=>simp[intOf]
    ·go_wp2_with fail
     go_quiet (fail)
     go_wp2_with fail
     ·have hc:((s[0].toNat:Int) == ((92:Nat):Int))=true:=by assumption
      have hb:=hB.out
      go_ret3
      exact⟨by rw[hF.out,if_neg (by omega),if_neg (by omega),if_neg (by omega),if_pos (by simp at hc;omega)];rfl,_,rfl⟩
     ·have hc:((s[0].toNat:Int) == ((92:Nat):Int))=false:=by assumption
      have hc':s[0].toNat≠92:=by simp at hc;omega
      go_roundw
      case rel=>exact⟨4,_,by omega,rfl,by have:=hB.out;refine⟨?_,?_,?_,?_⟩ <;> omega,rfl⟩
      case measure=>simp[intOf]
theorem Qti(s:ByteArray)(w:World)(hs:s.size≤maxLen) :
 Calls Tryz.prog 101 #[.string s] w fun e w'=>e = .returned (.bool (Qaf QIa s.data.toList))∧w=w':=by
 unfold maxLen at hs
 go_enter Tryz.func101,Tryz.ntmps101
 go_wp2
 go_loop [3] (fun i=>∃k:Nat,k≤s.size∧i = .int .i64 k∧Hid (Qaf QIa s.data.toList=Qaf QIa (s.data.toList.drop k))) (fun i=>s.size-(intOf i).toNat)
 case atStart=>exact⟨0,Nat.zero_le _,rfl,rfl⟩
 case round=>
  obtain⟨k,hk,rfl,hB⟩:=hrel
  by_cases Hj:k<s.size
  ·have hD:=hid (Qxa s k Hj)
   cases jH:QIa s[k].toNat
   ·go_wp2_with (first | (go_at_call 126;refine(QPc _ _).mono ?_;rintro e w' ⟨rfl,rfl⟩))
    go_ret
    exact⟨Qka (by rw[hB.out,hD.out,Qzc,jH,Bool.false_and]),rfl⟩
   ·go_wp2_with (first | (go_at_call 126;refine(QPc _ _).mono ?_;rintro e w' ⟨rfl,rfl⟩))
    go_round
    case rel=>exact⟨k+1,by omega,by go_num,by show _=_;rw[hB.out,hD.out,Qzc,jH,Bool.true_and]⟩
    case measure=>simp[intOf];omega
  ·go_wp2
   go_ret
   exact⟨Qka (by rw[hB.out,Q9a s k (by omega)];rfl),rfl⟩
def QOf(c:Int):Int:=if Qjc c<0 then 99 else Qjc c
theorem Qag(c:Int)(w:World)(h0:0≤c)(h1:c≤255) :
 Calls Tryz.prog 128 #[.int .u8 c] w fun e w'=>e = .returned (.int .i64 (QOf c))∧w=w':=by
 have hv:Hid ((48≤c∧c≤57∧QOf c=c-48)∨(97≤c∧c≤102∧QOf c=c-87)∨(65≤c∧c≤70∧QOf c=c-55)∨((c<48∨57<c)∧(c<97∨102<c)∧(c<65∨70<c)∧QOf c=99)):=by
  show _∨_
  unfold QOf
  by_cases a:48≤c∧c≤57
  ·rw[show Qjc c=c-48 from by unfold Qjc;rw[if_pos a],if_neg (by omega)];omega
  ·by_cases b:97≤c∧c≤102
   ·rw[show Qjc c=c-87 from by unfold Qjc;rw[if_neg a,if_pos b],if_neg (by omega)];omega
   ·by_cases d:65≤c∧c≤70
    ·rw[show Qjc c=c-55 from by unfold Qjc;rw[if_neg a,if_neg b,if_pos d],if_neg (by omega)];omega
    ·rw[show Qjc c = -1 from by unfold Qjc;rw[if_neg a,if_neg b,if_neg d],if_pos (by omega)];omega
 generalize QOf c=v at hv
 go_enter Tryz.func128,Tryz.ntmps128
 go_wp2
 all_goals (go_ret;exact⟨QDb (by have:=hv.out;omega),rfl⟩)
theorem Q1l(s:ByteArray)(w:World)(hs:s.size≤maxLen) :
 Calls Tryz.prog 108 #[.string s] w fun e w'=>e = .returned (.bool (Qna s.data.toList))∧w=w':=by
 have hs':=hs
 unfold maxLen at hs'
 have hF:=hid (show Qna s.data.toList=(decide (1≤s.size∧s.size≤31) && !QOa (s.data.toList.headD 0).toNat && Qaf QIa s.data.toList)from by unfold Qna;simp)
 by_cases h1:1≤s.size
 ·by_cases h2:s.size≤31
  ·have hH:=hid (Q9b s h1)
   by_cases hd:48≤s[0].toNat∧s[0].toNat≤57
   ·have hd':=hid (show QOa s[0].toNat=true from by unfold QOa;simp;omega)
    obtain⟨d1,d2⟩:=hd
    go_enter Tryz.func108,Tryz.ntmps108
    go_wp2_with fail
    go_ret
    exact⟨Qka (by rw[hF.out,hH.out,hd'.out];simp),rfl⟩
   ·have hd':=hid (show QOa s[0].toNat=false from by unfold QOa;simp;omega)
    have nB:s[0].toNat<48∨48≤s[0].toNat∧57<s[0].toNat:=by omega
    clear hd
    rcases nB with c|⟨c,c'⟩
    all_goals
     go_enter Tryz.func108,Tryz.ntmps108
     go_wp2_with (first | (go_at_call 101;refine(Qti _ _ hs).mono ?_;rintro e w' ⟨rfl,rfl⟩))
     go_ret
     exact⟨Qka (by rw[hF.out,hH.out,hd'.out,decide_eq_true ⟨h1,h2⟩];rfl),rfl⟩
  ·go_enter Tryz.func108,Tryz.ntmps108
   go_wp2_with fail
   go_ret
   exact⟨Qka (by rw[hF.out,decide_eq_false (by omega)];rfl),rfl⟩
 ·go_enter Tryz.func108,Tryz.ntmps108
  go_wp2_with fail
  go_ret
  exact⟨Qka (by rw[hF.out,decide_eq_false (by omega)];rfl),rfl⟩
def QHa(s:ByteArray)(i:Nat)(line col:Int):Array Value:=#[.string s,.int .i64 i,.int .i64 line,.int .i64 col]
theorem Qod{w:World}{b:Nat}{s:ByteArray}{i:Nat}{line col:Int}{t:TypeId}(h:Qca w b (QHa s i line col) t) :
 w.cell? ⟨b,0,none⟩=some (.string s)∧w.cell? ⟨b,1,none⟩=some (.int .i64 i)∧w.cell? ⟨b,2,none⟩=some (.int .i64 line)∧w.cell? ⟨b,3,none⟩=some (.int .i64 col)∧
 w.frozen? ⟨b,0,none⟩=false∧w.frozen? ⟨b,1,none⟩=false∧w.frozen? ⟨b,2,none⟩=false∧w.frozen? ⟨b,3,none⟩=false:=
 ⟨h.cell 0,h.cell 1,h.cell 2,h.cell 3,h.free 0,h.free 1,h.free 2,h.free 3⟩
theorem QBh(s:ByteArray)(i n:Nat)(line col:Int)(b:Nat)(w:World)(h:Qca w b (QHa s i line col) 111)(hi:i+n≤s.size)(hs:s.size≤140737488355328)
 (hl:1≤line) (hl':line≤i+1) (hc:1≤col) (hc':col≤i+1) :
 Calls Tryz.prog 62 #[.pointer (some ⟨b,0,none⟩),.int .i64 n] w fun e w'=>e = .returned (.tuple #[])∧
  Qca w' b (QHa s (i+n) (adv ((s.data.toList.drop i).take n) (line,col)).1 (adv ((s.data.toList.drop i).take n) (line,col)).2) 111∧Qaa (· = b) w w':=by
 go_enter Tryz.func62,Tryz.ntmps62
 go_wp2
 go_loopw [1] (fun n' wr=>∃j m:Nat,∃l c:Int,i≤j∧j+m=i+n∧n' = .int .i64 m∧1≤l∧l≤j+1∧1≤c∧c≤j+1∧Hid ((l,c)=adv ((s.data.toList.drop i).take (j-i)) (line,col))∧Qca wr b (QHa s j l c) 111∧Qaa (· = b) w wr) (fun n' _=>(intOf n').toNat)
 case atStart=>exact⟨i,n,line,col,Nat.le_refl _,rfl,rfl,hl,hl',hc,hc',by simp[Hid,adv],h,Qaa.refl _ _⟩
 case round=>
  obtain⟨j,m,l,c,GH,lu,rfl,Ks,KQ,mw,Kc,hA,hH,hK⟩:=hrel
  obtain⟨c0,c1,c2,c3,f0,f1,f2,f3⟩:=Qod hH
  by_cases hm:0<m
  ·have lx:j<s.size:=by omega
   have hS:=hid (QEj s i j GH lx (line,col))
   have lH:m≤140737488355328:=by omega
   have ai:=hid lu;clear lu
   have hA':=hA.out
   by_cases gY:s[j].toNat=10
   ·have kO:((s[j].toNat:Int) == 10)=true:=by simp[gY]
    have hN:Hid (((l+1:Int),(1:Int))=adv ((s.data.toList.drop i).take (j+1-i)) (line,col)):=by show _=_;rw[hS.out,if_pos gY,←hA']
    clear gY hS hA'
    go_wp2
    go_quiet (fail)
    go_wp2
    go_roundw
    case rel=>
     exact⟨j+1,m-1,l+1,1,by omega,by have:=ai.out;omega,by rw[show((m:Int)-1)=((m-1:Nat):Int)from by omega],by omega,by omega,by omega,by omega,hN,
      (((((hH.set 3 _).drewN nq).set 2 _).set 3 _).set 1 _),((((hK.setCell (.inr rfl) _).drewN nq).setCell (.inr rfl) _).setCell (.inr rfl) _).setCell (.inr rfl) _⟩
    case measure=>simp[intOf];omega
   ·have kO:((s[j].toNat:Int) == 10)=false:=by simp;omega
    have hN:Hid ((l,c+1)=adv ((s.data.toList.drop i).take (j+1-i)) (line,col)):=by show _=_;rw[hS.out,if_neg gY,←hA']
    clear gY hS hA'
    go_wp2
    go_quiet (fail)
    go_wp2
    go_roundw
    case rel=>
     exact⟨j+1,m-1,l,c+1,by omega,by have:=ai.out;omega,by rw[show((m:Int)-1)=((m-1:Nat):Int)from by omega],by omega,by omega,by omega,by omega,hN,
      (((hH.set 3 _).drewN nq).set 1 _),((hK.setCell (.inr rfl) _).drewN nq).setCell (.inr rfl) _⟩
    case measure=>simp[intOf];omega
  ·have:m=0:=by omega
   subst this
   go_wp2
   go_end0
   obtain rfl:j=i+n:=by omega
   refine⟨rfl,?_,hK⟩
   have:=hA.out
   rw[show i+n-i=n from by omega]at this
   rw[←this];exact hH
theorem QOp(s t:ByteArray)(i:Nat):((s.extract i (i+t.size)).toList == t.toList)=Lib.hasPrefix (s.data.toList.drop i) t.data.toList:=by
 have h2:=Qtd s i (i+t.size)
 rw[List.drop_take,show i+t.size-i=t.size from by omega]at h2
 rw[Lib.toList_data,Lib.toList_data,h2]
 unfold Lib.hasPrefix
 rw[Bool.eq_iff_iff,List.isPrefixOf_iff_prefix,List.prefix_iff_eq_take,beq_iff_eq]
 simp only[Array.length_toList]
 constructor <;> exact fun h=>h.symm
theorem QKl(s t:ByteArray)(i:Nat)(h:s.size<i+t.size)(hi:i≤s.size):Lib.hasPrefix (s.data.toList.drop i) t.data.toList=false:=by
 rw[Bool.eq_false_iff];intro hp
 have:=Lib.hasPrefix_le hp
 simp at this;omega
theorem QUd(s t:ByteArray)(i:Nat)(line col:Int)(b:Nat)(w:World)(h:Qca w b (QHa s i line col) 111)(hi:i≤s.size)(hs:s.size≤140737488355328)(ht:t.size≤140737488355328) :
 Calls Tryz.prog 97 #[.pointer (some ⟨b,0,none⟩),.string t] w fun e w'=>e = .returned (.bool (Lib.hasPrefix (s.data.toList.drop i) t.data.toList))∧∃n,w'=w.drewN n:=by
 obtain⟨c0,c1,c2,c3,f0,f1,f2,f3⟩:=Qod h
 by_cases MM:s.size-(i:Int) ≥ t.size
 ·have hP:=hid (QOp s t i)
  have bJ:i+t.size≤s.size:=by omega
  have hd:decide ((s.size:Int)-i ≥ t.size)=true:=by simpa using MM
  go_enter Tryz.func97,Tryz.ntmps97
  go_wp2
  go_quiet (fail)
  go_wp2
  go_ret
  exact⟨by rw[←hP.out];rfl,_,rfl⟩
 ·have hP:=hid (QKl s t i (by omega) hi)
  have hd:decide ((s.size:Int)-i ≥ t.size)=false:=by simp;omega
  go_enter Tryz.func97,Tryz.ntmps97
  go_wp2
  go_quiet (fail)
  go_wp2
  go_ret
  exact⟨by rw[hP.out];rfl,_,rfl⟩
theorem Qtn(s:ByteArray)(i:Nat)(line col:Int)(w:World)(hi:i≤s.size)(hs:s.size≤140737488355328) :
 Calls Tryz.prog 98 #[.agg (QHa s i line col)] w fun e w'=>e = .returned (.bool (Lib.hasPrefix (s.data.toList.drop i) [42,47]))∧Qaa (fun _=>False) w w':=by
 unfold QHa
 go_enter Tryz.func98,Tryz.ntmps98
 go_wp2_with fail
 refine(QUd s ⟨#[42,47]⟩ i line col w.heap.size _ (by exact Qca.new w _ _) hi hs (by simp[ByteArray.size])).mono ?_
 rintro e w1 ⟨rfl,n,rfl⟩
 go_wp2_with fail
 go_ret
 exact⟨rfl,((Qaa.refl _ w).alloc _).drewN n⟩
end Go.Proofs.YtofhcgbihonckaaGreat
