/- Contracts of name, Name, Label, hex, sign, escape, number of token. | Contracts of sign and escape of token. | Contracts of the small functions of the reference of token. | Contracts of the reference's reader: step, starts, ends. -/
import Derived.Test.YtofhcgbihonckaaGreatZ8
import Derived.Test.YtofhcgbihonckaaGreatZ10
import Derived.Test.YtofhcgbihonckaaGreatZ5
set_option linter.all false
set_option maxHeartbeats 8000000
namespace Go.Proofs.YtofhcgbihonckaaGreat
open Go.Lib (hid)
open Go.RowKit
theorem Qxd:Qsi 87 QPa:=fun c w _ _=>QCf c w
theorem Qjk:Qsi 91 QYa:=fun c w _ _=>Qmk c w
theorem Qik:Qsi 82 Qzb:=by
 intro c w _ _
 go_enter Tryz.func82,Tryz.ntmps82
 go_wp2
 all_goals (go_ret;exact⟨Qla (by unfold Qzb;rw[Bool.eq_iff_iff];simp <;> omega),rfl⟩)
theorem Qyd(c:Int)(w:World)(h0:0≤c)(h1:c≤255) :
 Calls Tryz.prog 119 #[.int .u8 c] w fun e w'=>e = .returned (.int .i64 (Qwc c))∧w=w':=by
 by_cases hd:48≤c∧c≤57
 ·have hd':QSa c=true:=by unfold QSa;simpa using hd
  obtain⟨ha,hb⟩:=hd
  go_enter Tryz.func119,Tryz.ntmps119
  go_wp2_with (first | (go_at_call 88;refine(QOa _ _).mono ?_;rintro e w' ⟨rfl,rfl⟩))
  go_ret
  exact⟨QOb (by unfold Qwc;rw[if_pos ⟨ha,hb⟩]),rfl⟩
 ·have hd':QSa c=false:=by unfold QSa;simpa using hd
  have HD:=hid hd;clear hd
  by_cases h2:97≤c∧c≤102
  ·obtain⟨ha,hb⟩:=h2
   go_enter Tryz.func119,Tryz.ntmps119
   go_wp2_with (first | (go_at_call 88;refine(QOa _ _).mono ?_;rintro e w' ⟨rfl,rfl⟩))
   go_ret
   exact⟨QOb (by unfold Qwc;rw[if_neg HD.out,if_pos ⟨ha,hb⟩];omega),rfl⟩
  ·by_cases h3:65≤c∧c≤70
   ·have h2':c<97:=by omega
    have H2:=hid h2;clear h2
    obtain⟨ha,hb⟩:=h3
    go_enter Tryz.func119,Tryz.ntmps119
    go_wp2_with (first | (go_at_call 88;refine(QOa _ _).mono ?_;rintro e w' ⟨rfl,rfl⟩))
    go_ret
    exact⟨QOb (by unfold Qwc;rw[if_neg HD.out,if_neg H2.out,if_pos ⟨ha,hb⟩];omega),rfl⟩
   ·have hf:Hid (Qwc c = -1):=by show _=_;unfold Qwc;rw[if_neg HD.out,if_neg h2,if_neg h3]
    go_enter Tryz.func119,Tryz.ntmps119
    go_wp2_with (first | (go_at_call 88;refine(QOa _ _).mono ?_;rintro e w' ⟨rfl,rfl⟩))
    all_goals first | (exfalso;omega) | (go_ret;exact⟨QOb hf.out.symm,rfl⟩)
theorem QVc:∀args w,(callFunc 87 args).run Tryz.prog w = .ok (.enter 87 args) w:=enters_of Tryz.func87 (by kernel_rfl) rfl
theorem QDi:∀args w,(callFunc 91 args).run Tryz.prog w = .ok (.enter 91 args) w:=enters_of Tryz.func91 (by kernel_rfl) rfl
theorem QCi:∀args w,(callFunc 82 args).run Tryz.prog w = .ok (.enter 82 args) w:=enters_of Tryz.func82 (by kernel_rfl) rfl
theorem Qlk(s:ByteArray)(w:World)(hs:s.size≤maxLen) :
 Calls Tryz.prog 53 #[.string s] w fun e w'=>e = .returned (.bool (Qra s.data.toList))∧w=w':=by
 have hs':=hs
 unfold maxLen at hs'
 have hF:=hid (show Qra s.data.toList=(decide (1≤s.size∧s.size≤31) && !QSa (s.data.toList.headD 0).toNat && QQf QPa s.data.toList)from by unfold Qra;simp)
 by_cases h1:1≤s.size
 ·by_cases h2:s.size≤31
  ·have hH:=hid (Qnc s h1)
   by_cases hl:QSa s[0].toNat=true
   ·go_enter Tryz.func53,Tryz.ntmps53
    go_wp2_with (first | (go_at_call 88;refine(QOa _ _).mono ?_;rintro e w' ⟨rfl,rfl⟩) | (go_at_call 86;refine(Q8d _ 87 QPa _ Qxd QVc hs).mono ?_;rintro e w' ⟨rfl,rfl⟩))
    go_ret
    exact⟨Qla (by rw[hF.out,hH.out,hl,decide_eq_true ⟨h1,h2⟩];rfl),rfl⟩
   ·have hl:QSa s[0].toNat=false:=by simpa using hl
    go_enter Tryz.func53,Tryz.ntmps53
    go_wp2_with (first | (go_at_call 88;refine(QOa _ _).mono ?_;rintro e w' ⟨rfl,rfl⟩) | (go_at_call 86;refine(Q8d _ 87 QPa _ Qxd QVc hs).mono ?_;rintro e w' ⟨rfl,rfl⟩))
    go_ret
    exact⟨Qla (by rw[hF.out,hH.out,hl,decide_eq_true ⟨h1,h2⟩];rfl),rfl⟩
  ·go_enter Tryz.func53,Tryz.ntmps53
   go_wp2_with fail
   go_ret
   exact⟨Qla (by rw[hF.out,decide_eq_false (by omega)];rfl),rfl⟩
 ·go_enter Tryz.func53,Tryz.ntmps53
  go_wp2_with fail
  go_ret
  exact⟨Qla (by rw[hF.out,decide_eq_false (by omega)];rfl),rfl⟩
theorem QDh(s:ByteArray)(w:World)(_hs:s.size≤maxLen)(h1:0<s.size) :
 Calls Tryz.prog 92 #[.string s] w fun e w'=>e = .returned (.int .i64 (Qyc s.data.toList))∧w=w':=by
 have hs:=_hs
 unfold maxLen at hs
 have hH:=hid (Qnc s h1)
 have hM:=hid (QFj Qbd s[0].toNat (by omega) (QYb _))
 go_enter Tryz.func92,Tryz.ntmps92
 go_wp2
 go_loop [3] (fun i=>∃k:Nat,k≤8∧i = .int .i64 ↑(2*k)∧Hid (QVa.any (fun p=>Lib.hasPrefix s.data.toList p)=(QVa.drop k).any (fun p=>Lib.hasPrefix s.data.toList p))) (fun i=>16-(intOf i).toNat)
 case atStart=>exact⟨0,Nat.zero_le _,rfl,rfl⟩
 case round=>
  obtain⟨k,hk,rfl,hB⟩:=hrel
  have:k=0∨k=1∨k=2∨k=3∨k=4∨k=5∨k=6∨k=7∨k=8:=by omega
  rcases this with rfl|rfl|rfl|rfl|rfl|rfl|rfl|rfl|rfl
  rotate_right
  ·go_wp2_with (first | (go_at_call 80;refine(Tryz.strings_HasPrefix _ _ _).mono ?_;rintro e w' ⟨rfl,rfl⟩) | (go_at_call 79;refine(Tryz.strings_IndexByte _ _ _).mono ?_;rintro e w' ⟨rfl,rfl⟩))
   ·have hc:QYd Qbd s[0].toNat=true:=Qpp (by assumption)
    go_ret
    exact⟨QOb (by unfold Qyc;rw[hB.out,if_neg (by simp[QVa]),hH.out,if_pos hc];rfl),rfl⟩
   ·have hc:QYd Qbd s[0].toNat=false:=QIq (by assumption)
    go_ret
    exact⟨QOb (by unfold Qyc;rw[hB.out,if_neg (by simp[QVa]),hH.out,if_neg (by simp[hc])];rfl),rfl⟩
  all_goals
   go_wp2_with (first | (go_at_call 80;refine(Tryz.strings_HasPrefix _ _ _).mono ?_;rintro e w' ⟨rfl,rfl⟩) | (go_at_call 79;refine(Tryz.strings_IndexByte _ _ _).mono ?_;rintro e w' ⟨rfl,rfl⟩))
   ·go_ret
    exact⟨QOb (by unfold Qyc;rw[hB.out,if_pos (by simp[QVa, *])];rfl),rfl⟩
  ·go_round
   case rel=>exact⟨1,by omega,rfl,by show _=_;rw[hB.out];simp[QVa, *]⟩
   case measure=>simp[intOf]
  ·go_round
   case rel=>exact⟨2,by omega,rfl,by show _=_;rw[hB.out];simp[QVa, *]⟩
   case measure=>simp[intOf]
  ·go_round
   case rel=>exact⟨3,by omega,rfl,by show _=_;rw[hB.out];simp[QVa, *]⟩
   case measure=>simp[intOf]
  ·go_round
   case rel=>exact⟨4,by omega,rfl,by show _=_;rw[hB.out];simp[QVa, *]⟩
   case measure=>simp[intOf]
  ·go_round
   case rel=>exact⟨5,by omega,rfl,by show _=_;rw[hB.out];simp[QVa, *]⟩
   case measure=>simp[intOf]
  ·go_round
   case rel=>exact⟨6,by omega,rfl,by show _=_;rw[hB.out];simp[QVa, *]⟩
   case measure=>simp[intOf]
  ·go_round
   case rel=>exact⟨7,by omega,rfl,by show _=_;rw[hB.out];simp[QVa, *]⟩
   case measure=>simp[intOf]
  ·go_round
   case rel=>exact⟨8,by omega,rfl,by show _=_;rw[hB.out];simp[QVa, *]⟩
   case measure=>simp[intOf]
theorem Qao(k:Nat)(x h:Int)(hk:k=1∨k=2)(hx:x*16<16 ^ k)(sm:h≤15):(16*x+h)*16<16 ^ (k+1):=by
 rcases hk with rfl|rfl <;> omega
theorem Qkj(s:ByteArray)(w:World)(hs:s.size≤maxLen) :
 Calls Tryz.prog 121 #[.string s] w fun e w'=>e = .returned (.tuple #[.int .u8 (esc s.data.toList).1,.int .i64 (esc s.data.toList).2.1,.int .i64 (esc s.data.toList).2.2])∧∃n,w'=w.drewN n:=by
 unfold maxLen at hs
 by_cases h0:s.size=0
 ·obtain rfl:=QEd s h0
  clear h0
  go_enter Tryz.func121,Tryz.ntmps121
  go_wp2_with fail
  go_ret3
  exact⟨rfl,0,rfl⟩
 ·have h0:0<s.size:=by omega
  have Hn:=Qzc s h0
  have Jr:=Qub s h0
  have hD:=hid (QBa s 0 h0)
  by_cases Gf:s[0].toNat=10
  ·have Kh:((s[0].toNat:Int) == 10)=true:=by simp[Gf]
   have hF:=hid (show esc s.data.toList=(0,0,21)from by rw[←List.drop_zero (l:=s.data.toList),hD.out];simp[esc,Gf])
   clear Gf
   go_enter Tryz.func121,Tryz.ntmps121
   go_wp2_with fail
   go_ret3
   exact⟨by rw[hF.out];rfl,0,rfl⟩
  ·have Kh:((s[0].toNat:Int) == 10)=false:=by simp;omega
   have hF:=hid (show esc s.data.toList=if s[0].toNat=110 then(10,1,0)else if s[0].toNat=116 then(9,1,0)else if s[0].toNat=34 then(34,1,0)else if s[0].toNat=92 then(92,1,0)
  else if s[0].toNat≠120 then(0,0,6)else hx2 2 (s.data.toList.drop 1) 0 from by rw[←List.drop_zero (l:=s.data.toList),hD.out];simp only[esc];rw[if_neg Gf];simp)
   clear Gf
   go_enter Tryz.func121,Tryz.ntmps121
   go_wp2_with fail
   go_loopw [5] (fun i wr=>∃k nd:Nat,k≤4∧i = .int .i64 ↑(2*k)∧Hid ((1≤k→s[0].toNat≠110)∧(2≤k→s[0].toNat≠116)∧(3≤k→s[0].toNat≠34)∧(4≤k→s[0].toNat≠92))∧wr=w.drewN nd) (fun i _=>8-(intOf i).toNat)
   case atStart=>exact⟨0,0,Nat.zero_le _,rfl,by simp[Hid],rfl⟩
   case round=>
    obtain⟨k,nd,hk,rfl,hB,rfl⟩:=hrel
    have:k=0∨k=1∨k=2∨k=3∨k=4:=by omega
    rcases this with rfl|rfl|rfl|rfl|rfl
    rotate_right
    ·rw[show(((2*4:Nat):Int))=8 from rfl]
     obtain⟨b1,b2,b3,b4⟩:=hB.out
     have JP:=hid (show esc s.data.toList=if s[0].toNat≠120 then(0,0,6)else hx2 2 (s.data.toList.drop 1) 0 from by rw[hF.out,if_neg (b1 (by omega)),if_neg (b2 (by omega)),if_neg (b3 (by omega)),if_neg (b4 (by omega))])
     clear b1 b2 b3 b4
     by_cases h120:s[0].toNat=120
     ·have nz:((s[0].toNat:Int) != 120)=false:=by simp[h120]
      have xx:=hid (show esc s.data.toList=hx2 2 (s.data.toList.drop 1) 0 from by rw[JP.out,if_neg (by omega)])
      clear h120
      go_wp2_with fail
      go_loop [6,7] (fun v i=>∃k:Nat,∃x:Int,1≤k∧k≤3∧k≤s.size∧i = .int .i64 k∧v = .int .i64 x∧0≤x∧x*16<16 ^ k∧Hid (esc s.data.toList=hx2 (3-k) (s.data.toList.drop k) x)) (fun _ i=>3-(intOf i).toNat)
      case atStart=>exact⟨1,0,by omega,by omega,by omega,rfl,rfl,by omega,by omega,xx⟩
      case round=>
       obtain⟨k,x,Ht,Hd,xZ,rfl,rfl,mH,Kr,hE⟩:=hrel
       by_cases Hp:k≤2
       ·by_cases hks2:k=s.size
        ·have xy:=hid (show esc s.data.toList=(0,0,21)from by rw[hE.out,Qdb s k (by omega),show 3-k=(2-k)+1 from by omega];rfl)
         have oR:((k:Int) == (s.size:Int))=true:=by simp;omega
         clear hks2
         go_wp2_with fail
         go_ret3
         exact⟨by rw[xy.out];rfl,_,rfl⟩
        ·have oR:((k:Int) == (s.size:Int))=false:=by simp;omega
         have td:k<s.size:=by omega
         have Hm:=Qof s[k].toNat
         have Kt:=hid (show esc s.data.toList=if s[k].toNat=10 then(0,0,21)else if Qwc s[k].toNat<0 then(0,0,6)else hx2 (3-(k+1)) (s.data.toList.drop (k+1)) (16*x+Qwc s[k].toNat)from by rw[hE.out,QBa s k td,show 3-k=(3-(k+1))+1 from by omega];rfl)
         clear hks2
         have bZ:x≤15:=by
          have:k=1∨k=2:=by omega
          rcases this with rfl|rfl <;> omega
         have uv:=hid Kr;clear Kr
         by_cases k10:s[k].toNat=10
         ·have k10':((s[k].toNat:Int) == 10)=true:=by simp[k10]
          have K10:=hid k10;clear k10
          go_wp2_with (first | (go_at_call 119;refine(Qyd _ _ (by omega) (QYb _)).mono ?_;rintro e w' ⟨rfl,rfl⟩))
          go_ret3
          exact⟨by rw[Kt.out,if_pos K10.out];rfl,_,rfl⟩
         ·have k10':((s[k].toNat:Int) == 10)=false:=by simp;omega
          have K10:=hid k10;clear k10
          by_cases hh:Qwc s[k].toNat<0
          ·go_wp2_with (first | (go_at_call 119;refine(Qyd _ _ (by omega) (QYb _)).mono ?_;rintro e w' ⟨rfl,rfl⟩))
           go_ret3
           exact⟨by rw[Kt.out,if_neg K10.out,if_pos hh];rfl,_,rfl⟩
          ·have hh:0≤Qwc s[k].toNat:=by omega
           go_wp2_with (first | (go_at_call 119;refine(Qyd _ _ (by omega) (QYb _)).mono ?_;rintro e w' ⟨rfl,rfl⟩))
           go_round
           case rel=>exact⟨k+1,16*x+Qwc s[k].toNat,by omega,by omega,by omega,by go_num,by go_num,by omega,Qao k x _ (by omega) uv.out (by omega),by show _=_;rw[Kt.out,if_neg K10.out,if_neg (by omega)]⟩
           case measure=>simp[intOf];omega
       ·obtain rfl:k=3:=by omega
        have bZ:x≤255:=by omega
        have uv:=hid Kr;clear Kr
        go_wp2_with fail
        go_ret3
        exact⟨by rw[hE.out];rfl,_,rfl⟩
     ·have nz:((s[0].toNat:Int) != 120)=true:=by simp;omega
      have qN:=hid h120;clear h120
      go_wp2_with fail
      go_ret3
      exact⟨by rw[JP.out,if_pos qN.out];rfl,_,rfl⟩
    ·go_wp2_with fail
     go_quiet (fail)
     go_wp2_with fail
     ·have hc:((s[0].toNat:Int) == ((110:Nat):Int))=true:=by assumption
      go_ret3
      exact⟨by rw[hF.out,if_pos (by simp at hc;omega)];rfl,_,rfl⟩
     ·have hc:((s[0].toNat:Int) == ((110:Nat):Int))=false:=by assumption
      have hc':s[0].toNat≠110:=by simp at hc;omega
      go_roundw
      case rel=>exact⟨1,_,by omega,rfl,by have:=hB.out;refine⟨fun _=>hc',?_⟩;omega,rfl⟩
      case measure=>simp[intOf]
    ·go_wp2_with fail
     go_quiet (fail)
     go_wp2_with fail
     ·have hc:((s[0].toNat:Int) == ((116:Nat):Int))=true:=by assumption
      have hb:=hB.out
      go_ret3
      exact⟨by rw[hF.out,if_neg (by omega),if_pos (by simp at hc;omega)];rfl,_,rfl⟩
     ·have hc:((s[0].toNat:Int) == ((116:Nat):Int))=false:=by assumption
      have hc':s[0].toNat≠116:=by simp at hc;omega
      go_roundw
      case rel=>exact⟨2,_,by omega,rfl,by have:=hB.out;refine⟨?_,?_,?_⟩ <;> omega,rfl⟩
      case measure=>simp[intOf]
    ·go_wp2_with fail
     go_quiet (fail)
     go_wp2_with fail
     ·have hc:((s[0].toNat:Int) == ((34:Nat):Int))=true:=by assumption
      have hb:=hB.out
      go_ret3
      exact⟨by rw[hF.out,if_neg (by omega),if_neg (by omega),if_pos (by simp at hc;omega)];rfl,_,rfl⟩
     ·have hc:((s[0].toNat:Int) == ((34:Nat):Int))=false:=by assumption
      have hc':s[0].toNat≠34:=by simp at hc;omega
      go_roundw
      case rel=>exact⟨3,_,by omega,rfl,by have:=hB.out;refine⟨?_,?_,?_⟩ <;> omega,rfl⟩
      case measure=>simp[intOf]
    ·go_wp2_with fail
     go_quiet (fail)
     go_wp2_with fail
     ·have hc:((s[0].toNat:Int) == ((92:Nat):Int))=true:=by assumption
      have hb:=hB.out
      go_ret3
      exact⟨by rw[hF.out,if_neg (by omega),if_neg (by omega),if_neg (by omega),if_pos (by simp at hc;omega)];rfl,_,rfl⟩
     ·have hc:((s[0].toNat:Int) == ((92:Nat):Int))=false:=by assumption
      have hc':s[0].toNat≠92:=by simp at hc;omega
      go_roundw
      case rel=>exact⟨4,_,by omega,rfl,by have:=hB.out;refine⟨?_,?_,?_,?_⟩ <;> omega,rfl⟩
      case measure=>simp[intOf]
theorem Qaj(s:ByteArray)(w:World)(hs:s.size≤maxLen) :
 Calls Tryz.prog 101 #[.string s] w fun e w'=>e = .returned (.bool (QQf QPa s.data.toList))∧w=w':=by
 unfold maxLen at hs
 go_enter Tryz.func101,Tryz.ntmps101
 go_wp2
 go_loop [3] (fun i=>∃k:Nat,k≤s.size∧i = .int .i64 k∧Hid (QQf QPa s.data.toList=QQf QPa (s.data.toList.drop k))) (fun i=>s.size-(intOf i).toNat)
 case atStart=>exact⟨0,Nat.zero_le _,rfl,rfl⟩
 case round=>
  obtain⟨k,hk,rfl,hB⟩:=hrel
  by_cases Hh:k<s.size
  ·have hD:=hid (QBa s k Hh)
   cases Js:QPa s[k].toNat
   ·go_wp2_with (first | (go_at_call 126;refine(Q9c _ _).mono ?_;rintro e w' ⟨rfl,rfl⟩))
    go_ret
    exact⟨Qla (by rw[hB.out,hD.out,QUc,Js,Bool.false_and]),rfl⟩
   ·go_wp2_with (first | (go_at_call 126;refine(Q9c _ _).mono ?_;rintro e w' ⟨rfl,rfl⟩))
    go_round
    case rel=>exact⟨k+1,by omega,by go_num,by show _=_;rw[hB.out,hD.out,QUc,Js,Bool.true_and]⟩
    case measure=>simp[intOf];omega
  ·go_wp2
   go_ret
   exact⟨Qla (by rw[hB.out,Qdb s k (by omega)];rfl),rfl⟩
def Qkg(c:Int):Int:=if Qwc c<0 then 99 else Qwc c
theorem QLg(c:Int)(w:World)(h0:0≤c)(h1:c≤255) :
 Calls Tryz.prog 128 #[.int .u8 c] w fun e w'=>e = .returned (.int .i64 (Qkg c))∧w=w':=by
 have hv:Hid ((48≤c∧c≤57∧Qkg c=c-48)∨(97≤c∧c≤102∧Qkg c=c-87)∨(65≤c∧c≤70∧Qkg c=c-55)∨((c<48∨57<c)∧(c<97∨102<c)∧(c<65∨70<c)∧Qkg c=99)):=by
  show _∨_
  unfold Qkg
  by_cases a:48≤c∧c≤57
  ·rw[show Qwc c=c-48 from by unfold Qwc;rw[if_pos a],if_neg (by omega)];omega
  ·by_cases b:97≤c∧c≤102
   ·rw[show Qwc c=c-87 from by unfold Qwc;rw[if_neg a,if_pos b],if_neg (by omega)];omega
   ·by_cases d:65≤c∧c≤70
    ·rw[show Qwc c=c-55 from by unfold Qwc;rw[if_neg a,if_neg b,if_pos d],if_neg (by omega)];omega
    ·rw[show Qwc c = -1 from by unfold Qwc;rw[if_neg a,if_neg b,if_neg d],if_pos (by omega)];omega
 generalize Qkg c=v at hv
 go_enter Tryz.func128,Tryz.ntmps128
 go_wp2
 all_goals (go_ret;exact⟨QOb (by have:=hv.out;omega),rfl⟩)
theorem Q1m(s:ByteArray)(w:World)(hs:s.size≤maxLen) :
 Calls Tryz.prog 108 #[.string s] w fun e w'=>e = .returned (.bool (Qra s.data.toList))∧w=w':=by
 have hs':=hs
 unfold maxLen at hs'
 have hF:=hid (show Qra s.data.toList=(decide (1≤s.size∧s.size≤31) && !QSa (s.data.toList.headD 0).toNat && QQf QPa s.data.toList)from by unfold Qra;simp)
 by_cases h1:1≤s.size
 ·by_cases h2:s.size≤31
  ·have hH:=hid (Qnc s h1)
   by_cases hd:48≤s[0].toNat∧s[0].toNat≤57
   ·have hd':=hid (show QSa s[0].toNat=true from by unfold QSa;simp;omega)
    obtain⟨d1,d2⟩:=hd
    go_enter Tryz.func108,Tryz.ntmps108
    go_wp2_with fail
    go_ret
    exact⟨Qla (by rw[hF.out,hH.out,hd'.out];simp),rfl⟩
   ·have hd':=hid (show QSa s[0].toNat=false from by unfold QSa;simp;omega)
    have qq:s[0].toNat<48∨48≤s[0].toNat∧57<s[0].toNat:=by omega
    clear hd
    rcases qq with c|⟨c,c'⟩
    all_goals
     go_enter Tryz.func108,Tryz.ntmps108
     go_wp2_with (first | (go_at_call 101;refine(Qaj _ _ hs).mono ?_;rintro e w' ⟨rfl,rfl⟩))
     go_ret
     exact⟨Qla (by rw[hF.out,hH.out,hd'.out,decide_eq_true ⟨h1,h2⟩];rfl),rfl⟩
  ·go_enter Tryz.func108,Tryz.ntmps108
   go_wp2_with fail
   go_ret
   exact⟨Qla (by rw[hF.out,decide_eq_false (by omega)];rfl),rfl⟩
 ·go_enter Tryz.func108,Tryz.ntmps108
  go_wp2_with fail
  go_ret
  exact⟨Qla (by rw[hF.out,decide_eq_false (by omega)];rfl),rfl⟩
def QIa(s:ByteArray)(i:Nat)(line col:Int):Array Value:=#[.string s,.int .i64 i,.int .i64 line,.int .i64 col]
theorem QMd{w:World}{b:Nat}{s:ByteArray}{i:Nat}{line col:Int}{t:TypeId}(h:Qca w b (QIa s i line col) t) :
 w.cell? ⟨b,0,none⟩=some (.string s)∧w.cell? ⟨b,1,none⟩=some (.int .i64 i)∧w.cell? ⟨b,2,none⟩=some (.int .i64 line)∧w.cell? ⟨b,3,none⟩=some (.int .i64 col)∧
 w.frozen? ⟨b,0,none⟩=false∧w.frozen? ⟨b,1,none⟩=false∧w.frozen? ⟨b,2,none⟩=false∧w.frozen? ⟨b,3,none⟩=false:=
 ⟨h.cell 0,h.cell 1,h.cell 2,h.cell 3,h.free 0,h.free 1,h.free 2,h.free 3⟩
theorem Qci(s:ByteArray)(i n:Nat)(line col:Int)(b:Nat)(w:World)(h:Qca w b (QIa s i line col) 111)(hi:i+n≤s.size)(hs:s.size≤140737488355328)
 (hl:1≤line) (hl':line≤i+1) (hc:1≤col) (hc':col≤i+1) :
 Calls Tryz.prog 62 #[.pointer (some ⟨b,0,none⟩),.int .i64 n] w fun e w'=>e = .returned (.tuple #[])∧
  Qca w' b (QIa s (i+n) (adv ((s.data.toList.drop i).take n) (line,col)).1 (adv ((s.data.toList.drop i).take n) (line,col)).2) 111∧Qaa (· = b) w w':=by
 go_enter Tryz.func62,Tryz.ntmps62
 go_wp2
 go_loopw [1] (fun n' wr=>∃j m:Nat,∃l c:Int,i≤j∧j+m=i+n∧n' = .int .i64 m∧1≤l∧l≤j+1∧1≤c∧c≤j+1∧Hid ((l,c)=adv ((s.data.toList.drop i).take (j-i)) (line,col))∧Qca wr b (QIa s j l c) 111∧Qaa (· = b) w wr) (fun n' _=>(intOf n').toNat)
 case atStart=>exact⟨i,n,line,col,Nat.le_refl _,rfl,rfl,hl,hl',hc,hc',by simp[Hid,adv],h,Qaa.refl _ _⟩
 case round=>
  obtain⟨j,m,l,c,GV,oN,rfl,KA,KW,K5,kO,hA,hH,hK⟩:=hrel
  obtain⟨c0,c1,c2,c3,f0,f1,f2,f3⟩:=QMd hH
  by_cases hm:0<m
  ·have oP:j<s.size:=by omega
   have hS:=hid (Quk s i j GV oP (line,col))
   have oY:m≤140737488355328:=by omega
   have bB:=hid oN;clear oN
   have hA':=hA.out
   by_cases Gf:s[j].toNat=10
   ·have Kh:((s[j].toNat:Int) == 10)=true:=by simp[Gf]
    have hN:Hid (((l+1:Int),(1:Int))=adv ((s.data.toList.drop i).take (j+1-i)) (line,col)):=by show _=_;rw[hS.out,if_pos Gf,←hA']
    clear Gf hS hA'
    go_wp2
    go_quiet (fail)
    go_wp2
    go_roundw
    case rel=>
     exact⟨j+1,m-1,l+1,1,by omega,by have:=bB.out;omega,by rw[show((m:Int)-1)=((m-1:Nat):Int)from by omega],by omega,by omega,by omega,by omega,hN,
      (((((hH.set 3 _).drewN nq).set 2 _).set 3 _).set 1 _),((((hK.setCell (.inr rfl) _).drewN nq).setCell (.inr rfl) _).setCell (.inr rfl) _).setCell (.inr rfl) _⟩
    case measure=>simp[intOf];omega
   ·have Kh:((s[j].toNat:Int) == 10)=false:=by simp;omega
    have hN:Hid ((l,c+1)=adv ((s.data.toList.drop i).take (j+1-i)) (line,col)):=by show _=_;rw[hS.out,if_neg Gf,←hA']
    clear Gf hS hA'
    go_wp2
    go_quiet (fail)
    go_wp2
    go_roundw
    case rel=>
     exact⟨j+1,m-1,l,c+1,by omega,by have:=bB.out;omega,by rw[show((m:Int)-1)=((m-1:Nat):Int)from by omega],by omega,by omega,by omega,by omega,hN,
      (((hH.set 3 _).drewN nq).set 1 _),((hK.setCell (.inr rfl) _).drewN nq).setCell (.inr rfl) _⟩
    case measure=>simp[intOf];omega
  ·have:m=0:=by omega
   subst this
   go_wp2
   go_end0
   obtain rfl:j=i+n:=by omega
   refine⟨rfl,?_,hK⟩
   have:=hA.out
   rw[show i+n-i=n from by omega]at this
   rw[←this];exact hH
theorem QXq(s t:ByteArray)(i:Nat):((s.extract i (i+t.size)).toList == t.toList)=Lib.hasPrefix (s.data.toList.drop i) t.data.toList:=by
 have h2:=QPd s i (i+t.size)
 rw[List.drop_take,show i+t.size-i=t.size from by omega]at h2
 rw[Lib.toList_data,Lib.toList_data,h2]
 unfold Lib.hasPrefix
 rw[Bool.eq_iff_iff,List.isPrefixOf_iff_prefix,List.prefix_iff_eq_take,beq_iff_eq]
 simp only[Array.length_toList]
 constructor <;> exact fun h=>h.symm
theorem QJm(s t:ByteArray)(i:Nat)(h:s.size<i+t.size)(hi:i≤s.size):Lib.hasPrefix (s.data.toList.drop i) t.data.toList=false:=by
 rw[Bool.eq_false_iff];intro hp
 have:=Lib.hasPrefix_le hp
 simp at this;omega
theorem Qle(s t:ByteArray)(i:Nat)(line col:Int)(b:Nat)(w:World)(h:Qca w b (QIa s i line col) 111)(hi:i≤s.size)(hs:s.size≤140737488355328)(ht:t.size≤140737488355328) :
 Calls Tryz.prog 97 #[.pointer (some ⟨b,0,none⟩),.string t] w fun e w'=>e = .returned (.bool (Lib.hasPrefix (s.data.toList.drop i) t.data.toList))∧∃n,w'=w.drewN n:=by
 obtain⟨c0,c1,c2,c3,f0,f1,f2,f3⟩:=QMd h
 by_cases ji:s.size-(i:Int) ≥ t.size
 ·have hP:=hid (QXq s t i)
  have oV:i+t.size≤s.size:=by omega
  have hd:decide ((s.size:Int)-i ≥ t.size)=true:=by simpa using ji
  go_enter Tryz.func97,Tryz.ntmps97
  go_wp2
  go_quiet (fail)
  go_wp2
  go_ret
  exact⟨by rw[←hP.out];rfl,_,rfl⟩
 ·have hP:=hid (QJm s t i (by omega) hi)
  have hd:decide ((s.size:Int)-i ≥ t.size)=false:=by simp;omega
  go_enter Tryz.func97,Tryz.ntmps97
  go_wp2
  go_quiet (fail)
  go_wp2
  go_ret
  exact⟨by rw[hP.out];rfl,_,rfl⟩
theorem Qvo(s:ByteArray)(i:Nat)(line col:Int)(w:World)(hi:i≤s.size)(hs:s.size≤140737488355328) :
 Calls Tryz.prog 98 #[.agg (QIa s i line col)] w fun e w'=>e = .returned (.bool (Lib.hasPrefix (s.data.toList.drop i) [42,47]))∧Qaa (fun _=>False) w w':=by
 unfold QIa
 go_enter Tryz.func98,Tryz.ntmps98
 go_wp2_with fail
 refine(Qle s ⟨#[42,47]⟩ i line col w.heap.size _ (by exact Qca.new w _ _) hi hs (by simp[ByteArray.size])).mono ?_
 rintro e w1 ⟨rfl,n,rfl⟩
 go_wp2_with fail
 go_ret
 exact⟨rfl,((Qaa.refl _ w).alloc _).drewN n⟩
end Go.Proofs.YtofhcgbihonckaaGreat
