/- Contracts of name, Name, Label, hex, sign, escape, number of token. | Contracts of sign and escape of token. -/
import Derived.Test.YtgaboghigefgbaaGreatDoorZ3
import Derived.Test.YtgaboghigefgbaaGreatDoorZ4
import Derived.Test.YtgaboghigefgbaaGreatDoorZ6
set_option linter.all false
set_option maxHeartbeats 8000000
namespace Go.Proofs.YtgaboghigefgbaaGreatDoor
open Go.Lib (hid)
open Go.RowKit
theorem Qbe:QXj 130 QWb:=fun c w _ _=>QKg c w
theorem Qum:QXj 196 Qqd:=fun c w _ _=>Qwm c w
theorem Qtm:QXj 193 Qkd:=by
 intro c w _ _
 go_enter Tryz.func193,Tryz.ntmps193
 go_wp2
 all_goals (go_ret;exact⟨Qha (by unfold Qkd;rw[Bool.eq_iff_iff];simp <;> omega),rfl⟩)
theorem Qce(c:Int)(w:World)(h0:0≤c)(h1:c≤255) :
 Calls Tryz.prog 211 #[.int .u8 c] w fun e w'=>e = .returned (.int .i64 (Qwg c))∧w=w':=by
 by_cases hd:48≤c∧c≤57
 ·have hd':Qvc c=true:=by unfold Qvc;simpa using hd
  obtain⟨ha,hb⟩:=hd
  go_enter Tryz.func211,Tryz.ntmps211
  go_wp2_with (first | (go_at_call 180;refine(Q1a _ _).mono ?_;rintro e w' ⟨rfl,rfl⟩))
  go_ret
  exact⟨QUa (by unfold Qwg;rw[if_pos ⟨ha,hb⟩]),rfl⟩
 ·have hd':Qvc c=false:=by unfold Qvc;simpa using hd
  have HD:=hid hd;clear hd
  by_cases h2:97≤c∧c≤102
  ·obtain⟨ha,hb⟩:=h2
   go_enter Tryz.func211,Tryz.ntmps211
   go_wp2_with (first | (go_at_call 180;refine(Q1a _ _).mono ?_;rintro e w' ⟨rfl,rfl⟩))
   go_ret
   exact⟨QUa (by unfold Qwg;rw[if_neg HD.out,if_pos ⟨ha,hb⟩];omega),rfl⟩
  ·by_cases h3:65≤c∧c≤70
   ·have h2':c<97:=by omega
    have H2:=hid h2;clear h2
    obtain⟨ha,hb⟩:=h3
    go_enter Tryz.func211,Tryz.ntmps211
    go_wp2_with (first | (go_at_call 180;refine(Q1a _ _).mono ?_;rintro e w' ⟨rfl,rfl⟩))
    go_ret
    exact⟨QUa (by unfold Qwg;rw[if_neg HD.out,if_neg H2.out,if_pos ⟨ha,hb⟩];omega),rfl⟩
   ·have hf:Hid (Qwg c = -1):=by show _=_;unfold Qwg;rw[if_neg HD.out,if_neg h2,if_neg h3]
    go_enter Tryz.func211,Tryz.ntmps211
    go_wp2_with (first | (go_at_call 180;refine(Q1a _ _).mono ?_;rintro e w' ⟨rfl,rfl⟩))
    all_goals first | (exfalso;omega) | (go_ret;exact⟨QUa hf.out.symm,rfl⟩)
theorem Qgd:∀args w,(callFunc 130 args).run Tryz.prog w = .ok (.enter 130 args) w:=enters_of Tryz.func130 (by kernel_rfl) rfl
theorem Qik:∀args w,(callFunc 196 args).run Tryz.prog w = .ok (.enter 196 args) w:=enters_of Tryz.func196 (by kernel_rfl) rfl
theorem Qdk:∀args w,(callFunc 193 args).run Tryz.prog w = .ok (.enter 193 args) w:=enters_of Tryz.func193 (by kernel_rfl) rfl
theorem Qvm(s:ByteArray)(w:World)(hs:s.size≤maxLen) :
 Calls Tryz.prog 162 #[.string s] w fun e w'=>e = .returned (.bool (Qtb s.data.toList))∧w=w':=by
 have hs':=hs
 unfold maxLen at hs'
 have hF:=hid (show Qtb s.data.toList=(decide (1≤s.size∧s.size≤31) && !Qvc (s.data.toList.headD 0).toNat && Qej QWb s.data.toList)from by unfold Qtb;simp)
 by_cases h1:1≤s.size
 ·by_cases h2:s.size≤31
  ·have hH:=hid (Qid s h1)
   by_cases hl:Qvc s[0].toNat=true
   ·go_enter Tryz.func162,Tryz.ntmps162
    go_wp2_with (first | (go_at_call 180;refine(Q1a _ _).mono ?_;rintro e w' ⟨rfl,rfl⟩) | (go_at_call 94;refine(QZe _ 130 QWb _ Qbe Qgd hs).mono ?_;rintro e w' ⟨rfl,rfl⟩))
    go_ret
    exact⟨Qha (by rw[hF.out,hH.out,hl,decide_eq_true ⟨h1,h2⟩];rfl),rfl⟩
   ·have hl:Qvc s[0].toNat=false:=by simpa using hl
    go_enter Tryz.func162,Tryz.ntmps162
    go_wp2_with (first | (go_at_call 180;refine(Q1a _ _).mono ?_;rintro e w' ⟨rfl,rfl⟩) | (go_at_call 94;refine(QZe _ 130 QWb _ Qbe Qgd hs).mono ?_;rintro e w' ⟨rfl,rfl⟩))
    go_ret
    exact⟨Qha (by rw[hF.out,hH.out,hl,decide_eq_true ⟨h1,h2⟩];rfl),rfl⟩
  ·go_enter Tryz.func162,Tryz.ntmps162
   go_wp2_with fail
   go_ret
   exact⟨Qha (by rw[hF.out,decide_eq_false (by omega)];rfl),rfl⟩
 ·go_enter Tryz.func162,Tryz.ntmps162
  go_wp2_with fail
  go_ret
  exact⟨Qha (by rw[hF.out,decide_eq_false (by omega)];rfl),rfl⟩
theorem Q6i(s:ByteArray)(w:World)(_hs:s.size≤maxLen)(h1:0<s.size) :
 Calls Tryz.prog 197 #[.string s] w fun e w'=>e = .returned (.int .i64 (Qxd s.data.toList))∧w=w':=by
 have hs:=_hs
 unfold maxLen at hs
 have hH:=hid (Qid s h1)
 have hM:=hid (QOl Qrh s[0].toNat (by omega) (Q0c _))
 go_enter Tryz.func197,Tryz.ntmps197
 go_wp2
 go_loop [3] (fun i=>∃k:Nat,k≤8∧i = .int .i64 ↑(2*k)∧Hid (Q1c.any (fun p=>Lib.hasPrefix s.data.toList p)=(Q1c.drop k).any (fun p=>Lib.hasPrefix s.data.toList p))) (fun i=>16-(intOf i).toNat)
 case atStart=>exact⟨0,Nat.zero_le _,rfl,rfl⟩
 case round=>
  obtain⟨k,hk,rfl,hB⟩:=hrel
  have:k=0∨k=1∨k=2∨k=3∨k=4∨k=5∨k=6∨k=7∨k=8:=by omega
  rcases this with rfl|rfl|rfl|rfl|rfl|rfl|rfl|rfl|rfl
  rotate_right
  ·go_wp2_with (first | (go_at_call 124;refine(Tryz.strings_HasPrefix _ _ _).mono ?_;rintro e w' ⟨rfl,rfl⟩) | (go_at_call 131;refine(Tryz.strings_IndexByte _ _ _).mono ?_;rintro e w' ⟨rfl,rfl⟩))
   ·have hc:Qpf Qrh s[0].toNat=true:=QRs (by assumption)
    go_ret
    exact⟨QUa (by unfold Qxd;rw[hB.out,if_neg (by simp[Q1c]),hH.out,if_pos hc];rfl),rfl⟩
   ·have hc:Qpf Qrh s[0].toNat=false:=QPt (by assumption)
    go_ret
    exact⟨QUa (by unfold Qxd;rw[hB.out,if_neg (by simp[Q1c]),hH.out,if_neg (by simp[hc])];rfl),rfl⟩
  all_goals
   go_wp2_with (first | (go_at_call 124;refine(Tryz.strings_HasPrefix _ _ _).mono ?_;rintro e w' ⟨rfl,rfl⟩) | (go_at_call 131;refine(Tryz.strings_IndexByte _ _ _).mono ?_;rintro e w' ⟨rfl,rfl⟩))
   ·go_ret
    exact⟨QUa (by unfold Qxd;rw[hB.out,if_pos (by simp[Q1c, *])];rfl),rfl⟩
  ·go_round
   case rel=>exact⟨1,by omega,rfl,by show _=_;rw[hB.out];simp[Q1c, *]⟩
   case measure=>simp[intOf]
  ·go_round
   case rel=>exact⟨2,by omega,rfl,by show _=_;rw[hB.out];simp[Q1c, *]⟩
   case measure=>simp[intOf]
  ·go_round
   case rel=>exact⟨3,by omega,rfl,by show _=_;rw[hB.out];simp[Q1c, *]⟩
   case measure=>simp[intOf]
  ·go_round
   case rel=>exact⟨4,by omega,rfl,by show _=_;rw[hB.out];simp[Q1c, *]⟩
   case measure=>simp[intOf]
  ·go_round
   case rel=>exact⟨5,by omega,rfl,by show _=_;rw[hB.out];simp[Q1c, *]⟩
   case measure=>simp[intOf]
  ·go_round
   case rel=>exact⟨6,by omega,rfl,by show _=_;rw[hB.out];simp[Q1c, *]⟩
   case measure=>simp[intOf]
  ·go_round
   case rel=>exact⟨7,by omega,rfl,by show _=_;rw[hB.out];simp[Q1c, *]⟩
   case measure=>simp[intOf]
  ·go_round
   case rel=>exact⟨8,by omega,rfl,by show _=_;rw[hB.out];simp[Q1c, *]⟩
   case measure=>simp[intOf]
theorem QCr(k:Nat)(x h:Int)(hk:k=1∨k=2)(hx:x*16<16 ^ k)(lw:h≤15):(16*x+h)*16<16 ^ (k+1):=by
 rcases hk with rfl|rfl <;> omega
theorem Qbl(s:ByteArray)(w:World)(hs:s.size≤maxLen) :
 Calls Tryz.prog 213 #[.string s] w fun e w'=>e = .returned (.tuple #[.int .u8 (esc s.data.toList).1,.int .i64 (esc s.data.toList).2.1,.int .i64 (esc s.data.toList).2.2])∧∃n,w'=w.drewN n:=by
 unfold maxLen at hs
 by_cases h0:s.size=0
 ·obtain rfl:=Qgh s h0
  clear h0
  go_enter Tryz.func213,Tryz.ntmps213
  go_wp2_with fail
  go_ret3
  exact⟨rfl,0,rfl⟩
 ·have h0:0<s.size:=by omega
  have Hm:=QYe s h0
  have kN:=QTc s h0
  have hD:=hid (QCb s 0 h0)
  by_cases Gk:s[0].toNat=10
  ·have bm:((s[0].toNat:Int) == 10)=true:=by simp[Gk]
   have hF:=hid (show esc s.data.toList=(0,0,21)from by rw[←List.drop_zero (l:=s.data.toList),hD.out];simp[esc,Gk])
   clear Gk
   go_enter Tryz.func213,Tryz.ntmps213
   go_wp2_with fail
   go_ret3
   exact⟨by rw[hF.out];rfl,0,rfl⟩
  ·have bm:((s[0].toNat:Int) == 10)=false:=by simp;omega
   have hF:=hid (show esc s.data.toList=if s[0].toNat=110 then(10,1,0)else if s[0].toNat=116 then(9,1,0)else if s[0].toNat=34 then(34,1,0)else if s[0].toNat=92 then(92,1,0)
  else if s[0].toNat≠120 then(0,0,6)else hx2 2 (s.data.toList.drop 1) 0 from by rw[←List.drop_zero (l:=s.data.toList),hD.out];simp only[esc];rw[if_neg Gk];simp)
   clear Gk
   go_enter Tryz.func213,Tryz.ntmps213
   go_wp2_with fail
   go_loopw [5] (fun i wr=>∃k nd:Nat,k≤4∧i = .int .i64 ↑(2*k)∧Hid ((1≤k→s[0].toNat≠110)∧(2≤k→s[0].toNat≠116)∧(3≤k→s[0].toNat≠34)∧(4≤k→s[0].toNat≠92))∧wr=w.drewN nd) (fun i _=>8-(intOf i).toNat)
   case atStart=>exact⟨0,0,Nat.zero_le _,rfl,by simp[Hid],rfl⟩
   case round=>
    obtain⟨k,nd,hk,rfl,hB,rfl⟩:=hrel
    have:k=0∨k=1∨k=2∨k=3∨k=4:=by omega
    rcases this with rfl|rfl|rfl|rfl|rfl
    rotate_right
    ·rw[show(((2*4:Nat):Int))=8 from rfl]
     obtain⟨b1,b2,b3,b4⟩:=hB.out
     have mN:=hid (show esc s.data.toList=if s[0].toNat≠120 then(0,0,6)else hx2 2 (s.data.toList.drop 1) 0 from by rw[hF.out,if_neg (b1 (by omega)),if_neg (b2 (by omega)),if_neg (b3 (by omega)),if_neg (b4 (by omega))])
     clear b1 b2 b3 b4
     by_cases h120:s[0].toNat=120
     ·have Jm:((s[0].toNat:Int) != 120)=false:=by simp[h120]
      have CI:=hid (show esc s.data.toList=hx2 2 (s.data.toList.drop 1) 0 from by rw[mN.out,if_neg (by omega)])
      clear h120
      go_wp2_with fail
      go_loop [6,7] (fun v i=>∃k:Nat,∃x:Int,1≤k∧k≤3∧k≤s.size∧i = .int .i64 k∧v = .int .i64 x∧0≤x∧x*16<16 ^ k∧Hid (esc s.data.toList=hx2 (3-k) (s.data.toList.drop k) x)) (fun _ i=>3-(intOf i).toNat)
      case atStart=>exact⟨1,0,by omega,by omega,by omega,rfl,rfl,by omega,by omega,CI⟩
      case round=>
       obtain⟨k,x,gz,Hy,sK,rfl,rfl,aK,jL,hE⟩:=hrel
       by_cases gJ:k≤2
       ·by_cases hks2:k=s.size
        ·have CJ:=hid (show esc s.data.toList=(0,0,21)from by rw[hE.out,QOc s k (by omega),show 3-k=(2-k)+1 from by omega];rfl)
         have sL:((k:Int) == (s.size:Int))=true:=by simp;omega
         clear hks2
         go_wp2_with fail
         go_ret3
         exact⟨by rw[CJ.out];rfl,_,rfl⟩
        ·have sL:((k:Int) == (s.size:Int))=false:=by simp;omega
         have yE:k<s.size:=by omega
         have gw:=Qrj s[k].toNat
         have Kz:=hid (show esc s.data.toList=if s[k].toNat=10 then(0,0,21)else if Qwg s[k].toNat<0 then(0,0,6)else hx2 (3-(k+1)) (s.data.toList.drop (k+1)) (16*x+Qwg s[k].toNat)from by rw[hE.out,QCb s k yE,show 3-k=(3-(k+1))+1 from by omega];rfl)
         clear hks2
         have cJ:x≤15:=by
          have:k=1∨k=2:=by omega
          rcases this with rfl|rfl <;> omega
         have MN:=hid jL;clear jL
         by_cases k10:s[k].toNat=10
         ·have k10':((s[k].toNat:Int) == 10)=true:=by simp[k10]
          have K10:=hid k10;clear k10
          go_wp2_with (first | (go_at_call 211;refine(Qce _ _ (by omega) (Q0c _)).mono ?_;rintro e w' ⟨rfl,rfl⟩))
          go_ret3
          exact⟨by rw[Kz.out,if_pos K10.out];rfl,_,rfl⟩
         ·have k10':((s[k].toNat:Int) == 10)=false:=by simp;omega
          have K10:=hid k10;clear k10
          by_cases hh:Qwg s[k].toNat<0
          ·go_wp2_with (first | (go_at_call 211;refine(Qce _ _ (by omega) (Q0c _)).mono ?_;rintro e w' ⟨rfl,rfl⟩))
           go_ret3
           exact⟨by rw[Kz.out,if_neg K10.out,if_pos hh];rfl,_,rfl⟩
          ·have hh:0≤Qwg s[k].toNat:=by omega
           go_wp2_with (first | (go_at_call 211;refine(Qce _ _ (by omega) (Q0c _)).mono ?_;rintro e w' ⟨rfl,rfl⟩))
           go_round
           case rel=>exact⟨k+1,16*x+Qwg s[k].toNat,by omega,by omega,by omega,by go_num,by go_num,by omega,QCr k x _ (by omega) MN.out (by omega),by show _=_;rw[Kz.out,if_neg K10.out,if_neg (by omega)]⟩
           case measure=>simp[intOf];omega
       ·obtain rfl:k=3:=by omega
        have cJ:x≤255:=by omega
        have MN:=hid jL;clear jL
        go_wp2_with fail
        go_ret3
        exact⟨by rw[hE.out];rfl,_,rfl⟩
     ·have Jm:((s[0].toNat:Int) != 120)=true:=by simp;omega
      have vD:=hid h120;clear h120
      go_wp2_with fail
      go_ret3
      exact⟨by rw[mN.out,if_pos vD.out];rfl,_,rfl⟩
    ·go_wp2_with fail
     go_quiet (fail)
     go_wp2_with fail
     ·have hc:((s[0].toNat:Int) == ((110:Nat):Int))=true:=by assumption
      go_ret3
      exact⟨by rw[hF.out,if_pos (by simp at hc;omega)];rfl,_,rfl⟩
     ·have hc:((s[0].toNat:Int) == ((110:Nat):Int))=false:=by assumption
      have hc':s[0].toNat≠110:=by simp at hc;omega
      go_roundw
      case rel=>exact⟨1,_,by omega,rfl,by have:=hB.out;refine⟨fun _=>hc',?_⟩;omega,rfl⟩
      case measure=>simp[intOf]
    ·go_wp2_with fail
     go_quiet (fail)
     go_wp2_with fail
     ·have hc:((s[0].toNat:Int) == ((116:Nat):Int))=true:=by assumption
      have hb:=hB.out
      go_ret3
      exact⟨by rw[hF.out,if_neg (by omega),if_pos (by simp at hc;omega)];rfl,_,rfl⟩
     ·have hc:((s[0].toNat:Int) == ((116:Nat):Int))=false:=by assumption
      have hc':s[0].toNat≠116:=by simp at hc;omega
      go_roundw
      case rel=>exact⟨2,_,by omega,rfl,by have:=hB.out;refine⟨?_,?_,?_⟩ <;> omega,rfl⟩
      case measure=>simp[intOf]
    ·go_wp2_with fail
     go_quiet (fail)
     go_wp2_with fail
     ·have hc:((s[0].toNat:Int) == ((34:Nat):Int))=true:=by assumption
      have hb:=hB.out
      go_ret3
      exact⟨by rw[hF.out,if_neg (by omega),if_neg (by omega),if_pos (by simp at hc;omega)];rfl,_,rfl⟩
     ·have hc:((s[0].toNat:Int) == ((34:Nat):Int))=false:=by assumption
      have hc':s[0].toNat≠34:=by simp at hc;omega
      go_roundw
      case rel=>exact⟨3,_,by omega,rfl,by have:=hB.out;refine⟨?_,?_,?_⟩ <;> omega,rfl⟩
      case measure=>simp[intOf]
    ·go_wp2_with fail
     go_quiet (fail)
     go_wp2_with fail
     ·have hc:((s[0].toNat:Int) == ((92:Nat):Int))=true:=by assumption
      have hb:=hB.out
      go_ret3
      exact⟨by rw[hF.out,if_neg (by omega),if_neg (by omega),if_neg (by omega),if_pos (by simp at hc;omega)];rfl,_,rfl⟩
     ·have hc:((s[0].toNat:Int) == ((92:Nat):Int))=false:=by assumption
      have hc':s[0].toNat≠92:=by simp at hc;omega
      go_roundw
      case rel=>exact⟨4,_,by omega,rfl,by have:=hB.out;refine⟨?_,?_,?_,?_⟩ <;> omega,rfl⟩
      case measure=>simp[intOf]
end Go.Proofs.YtgaboghigefgbaaGreatDoor
