/- Lemmas on the way to the law; no conditions. -/
import Derived.Test.YtgaboghigefgbaaGreatDoorZ5
import Derived.Test.YtgaboghigefgbaaGreatDoorZ6
import Derived.Test.YtgaboghigefgbaaGreatDoorZ8
set_option linter.all false
set_option maxHeartbeats 8000000
namespace Go.Proofs.YtgaboghigefgbaaGreatDoor
open Go.Proofs.Tryz
open Go.Lib (hid)
open Go.RowKit
theorem QDg:Q6j 130 Q7b:=fun c w _ _=>QEg c w
theorem QBm:Q6j 196 Qhd:=fun c w _ _=>QCm c w
theorem QAm:Q6j 193 Qcd:=by
 intro c w _ _;go_enter func193,ntmps193
 go_wp2
 all_goals (go_ret;exact⟨Qka (by unfold Qcd;rw[Bool.eq_iff_iff];simp <;> omega),rfl⟩)
theorem Q0d(c:Int)(w:World)(h0:0≤c)(h1:c≤255) :
 Calls prog 211 #[.int .u8 c] w fun e w'=>e=.returned (.int .i64 (Qrg c))∧w=w':=by
 by_cases hd:48≤c∧c≤57
 ·have hd':QKc c=true:=by unfold QKc;simpa using hd
  obtain⟨ha,hb⟩:=hd;go_enter func211,ntmps211;go_wp2_with(first | (go_at_call 180;refine(Qeb _ _).mono ?_;rintro e w' ⟨rfl,rfl⟩));go_ret;exact⟨QXa (by unfold Qrg;rw[if_pos ⟨ha,hb⟩]),rfl⟩
 have hd':QKc c=false:=by unfold QKc;simpa using hd
 have HD:=hid hd;clear hd;by_cases h2:97≤c∧c≤102
 ·obtain⟨ha,hb⟩:=h2;go_enter func211,ntmps211;go_wp2_with(first | (go_at_call 180;refine(Qeb _ _).mono ?_;rintro e w' ⟨rfl,rfl⟩));go_ret;exact⟨QXa (by unfold Qrg;rw[if_neg HD.o,if_pos ⟨ha,hb⟩];omega),rfl⟩
 by_cases h3:65≤c∧c≤70
 ·have h2':c<97:=by omega
  have H2:=hid h2;clear h2;obtain⟨ha,hb⟩:=h3;go_enter func211,ntmps211;go_wp2_with(first | (go_at_call 180;refine(Qeb _ _).mono ?_;rintro e w' ⟨rfl,rfl⟩));go_ret;exact⟨QXa (by unfold Qrg;rw[if_neg HD.o,if_neg H2.o,if_pos ⟨ha,hb⟩];omega),rfl⟩
 have hf:Hid (Qrg c = -1):=by show _=_;unfold Qrg;rw[if_neg HD.o,if_neg h2,if_neg h3]
 go_enter func211,ntmps211;go_wp2_with(first | (go_at_call 180;refine(Qeb _ _).mono ?_;rintro e w' ⟨rfl,rfl⟩))
 all_goals first | (exfalso;omega) | (go_ret;exact⟨QXa hf.o.symm,rfl⟩)
theorem QAf:∀args w,(callFunc 130 args).run prog w=.ok (.enter 130 args) w:=enters_of func130 (by kernel_rfl) rfl
theorem Qvk:∀args w,(callFunc 196 args).run prog w=.ok (.enter 196 args) w:=enters_of func196 (by kernel_rfl) rfl
theorem Qqk:∀args w,(callFunc 193 args).run prog w=.ok (.enter 193 args) w:=enters_of func193 (by kernel_rfl) rfl
theorem Qcj(s:ByteArray)(w:World)(_hs:s.size≤maxLen)(h1:0<s.size) :
 Calls prog 197 #[.string s] w fun e w'=>e=.returned (.int .i64 (Qmd s.data.toList))∧w=w':=by
 have hs:=_hs;unfold maxLen at hs;have hH:=hid (QId s h1);have hM:=hid (QWl Qlh s[0].toNat (by omega) (QRc _));go_enter func197,ntmps197
 go_wp2
 go_loop [3] (fun i=>∃k:Nat,k≤8∧i=.int .i64 ↑(2*k)∧Hid (QSc.any (fun p=>Lib.hasPrefix s.data.toList p)=(QSc.drop k).any (fun p=>Lib.hasPrefix s.data.toList p))) (fun i=>16-(intOf i).toNat)
 case atStart=>exact⟨0,Nat.zero_le _,rfl,rfl⟩
 case round=>
  obtain⟨k,hk,rfl,hB⟩:=hrel;have:k=0∨k=1∨k=2∨k=3∨k=4∨k=5∨k=6∨k=7∨k=8:=by omega
  rcases this with rfl|rfl|rfl|rfl|rfl|rfl|rfl|rfl|rfl
  rotate_right
  ·go_wp2_with(first | (go_at_call 124;refine(Tryz.strings_HasPrefix _ _ _).mono ?_;rintro e w' ⟨rfl,rfl⟩) | (go_at_call 131;refine(Tryz.strings_IndexByte _ _ _).mono ?_;rintro e w' ⟨rfl,rfl⟩))
   ·have hc:Qef Qlh s[0].toNat=true:=Qet (by assumption);go_ret;exact⟨QXa (by unfold Qmd;rw[hB.o,if_neg (by simp[QSc]),hH.o,if_pos hc];rfl),rfl⟩
   have hc:Qef Qlh s[0].toNat=false:=Q2t (by assumption);go_ret;exact⟨QXa (by unfold Qmd;rw[hB.o,if_neg (by simp[QSc]),hH.o,if_neg (by simp[hc])];rfl),rfl⟩
  all_goals
   go_wp2_with(first | (go_at_call 124;refine(Tryz.strings_HasPrefix _ _ _).mono ?_;rintro e w' ⟨rfl,rfl⟩) | (go_at_call 131;refine(Tryz.strings_IndexByte _ _ _).mono ?_;rintro e w' ⟨rfl,rfl⟩));go_ret;exact⟨QXa (by unfold Qmd;rw[hB.o,if_pos (by simp[QSc, *])];rfl),rfl⟩
  ·go_round
   case rel=>exact⟨1,by omega,rfl,by show _=_;rw[hB.o];simp[QSc, *]⟩
   case measure=>simp[intOf]
  ·go_round
   case rel=>exact⟨2,by omega,rfl,by show _=_;rw[hB.o];simp[QSc, *]⟩
   case measure=>simp[intOf]
  ·go_round
   case rel=>exact⟨3,by omega,rfl,by show _=_;rw[hB.o];simp[QSc, *]⟩
   case measure=>simp[intOf]
  ·go_round
   case rel=>exact⟨4,by omega,rfl,by show _=_;rw[hB.o];simp[QSc, *]⟩
   case measure=>simp[intOf]
  ·go_round
   case rel=>exact⟨5,by omega,rfl,by show _=_;rw[hB.o];simp[QSc, *]⟩
   case measure=>simp[intOf]
  ·go_round
   case rel=>exact⟨6,by omega,rfl,by show _=_;rw[hB.o];simp[QSc, *]⟩
   case measure=>simp[intOf]
  ·go_round
   case rel=>exact⟨7,by omega,rfl,by show _=_;rw[hB.o];simp[QSc, *]⟩
   case measure=>simp[intOf]
  go_round
  case rel=>exact⟨8,by omega,rfl,by show _=_;rw[hB.o];simp[QSc, *]⟩
  case measure=>simp[intOf]
theorem Q7r(k:Nat)(x h:Int)(hk:k=1∨k=2)(hx:x*16<16 ^ k)(fA:h≤15):(16*x+h)*16<16 ^ (k+1):=by
 rcases hk with rfl|rfl <;> omega
theorem Qnl(s:ByteArray)(w:World)(hs:s.size≤maxLen) :
 Calls prog 213 #[.string s] w fun e w'=>e=.returned (.tuple #[.int .u8 (esc s.data.toList).1,.int .i64 (esc s.data.toList).2.1,.int .i64 (esc s.data.toList).2.2])∧∃n,w'=w.drewN n:=by
 unfold maxLen at hs;by_cases h0:s.size=0
 ·obtain rfl:=Qeh s h0;clear h0;go_enter func213,ntmps213;go_wp2_with fail;go_ret3;exact⟨rfl,0,rfl⟩
 have h0:0<s.size:=by omega
 have Hl:=QLe s h0;have kM:=QJc s h0;have hD:=hid (Qdb s 0 h0);by_cases gR:s[0].toNat=10
 ·have J4:((s[0].toNat:Int)==10)=true:=by simp[gR]
  have hF:=hid (show esc s.data.toList=(0,0,21)from by rw[←List.drop_zero (l:=s.data.toList),hD.o];simp[esc,gR]);clear gR;go_enter func213,ntmps213;go_wp2_with fail;go_ret3;exact⟨by rw[hF.o];rfl,0,rfl⟩
 ·have J4:((s[0].toNat:Int)==10)=false:=by simp;omega
  have hF:=hid (show esc s.data.toList=if s[0].toNat=110 then(10,1,0)else if s[0].toNat=116 then(9,1,0)else if s[0].toNat=34 then(34,1,0)else if s[0].toNat=92 then(92,1,0)
 else if s[0].toNat≠120 then(0,0,6)else hx2 2 (s.data.toList.drop 1) 0 from by rw[←List.drop_zero (l:=s.data.toList),hD.o];simp only[esc];rw[if_neg gR];simp)
  clear gR;go_enter func213,ntmps213;go_wp2_with fail
  go_loopw [5] (fun i wr=>∃k nd:Nat,k≤4∧i=.int .i64 ↑(2*k)∧Hid ((1≤k→s[0].toNat≠110)∧(2≤k→s[0].toNat≠116)∧(3≤k→s[0].toNat≠34)∧(4≤k→s[0].toNat≠92))∧wr=w.drewN nd) (fun i _=>8-(intOf i).toNat)
  case atStart=>exact⟨0,0,Nat.zero_le _,rfl,by simp[Hid],rfl⟩
  case round=>
   obtain⟨k,nd,hk,rfl,hB,rfl⟩:=hrel;have:k=0∨k=1∨k=2∨k=3∨k=4:=by omega
   rcases this with rfl|rfl|rfl|rfl|rfl
   rotate_right
   ·rw[show(((2*4:Nat):Int))=8 from rfl];obtain⟨b1,b2,b3,b4⟩:=hB.o;have KU:=hid (show esc s.data.toList=if s[0].toNat≠120 then(0,0,6)else hx2 2 (s.data.toList.drop 1) 0 from by rw[hF.o,if_neg (b1 (by omega)),if_neg (b2 (by omega)),if_neg (b3 (by omega)),if_neg (b4 (by omega))]);clear b1 b2 b3 b4;by_cases h120:s[0].toNat=120
    ·have jD:((s[0].toNat:Int) != 120)=false:=by simp[h120]
     have zL:=hid (show esc s.data.toList=hx2 2 (s.data.toList.drop 1) 0 from by rw[KU.o,if_neg (by omega)]);clear h120;go_wp2_with fail
     go_loop [6,7] (fun v i=>∃k:Nat,∃x:Int,1≤k∧k≤3∧k≤s.size∧i=.int .i64 k∧v=.int .i64 x∧0≤x∧x*16<16 ^ k∧Hid (esc s.data.toList=hx2 (3-k) (s.data.toList.drop k) x)) (fun _ i=>3-(intOf i).toNat)
     case atStart=>exact⟨1,0,by omega,by omega,by omega,rfl,rfl,by omega,by omega,zL⟩
     case round=>
      obtain⟨k,x,Ga,GH,pm,rfl,rfl,JM,MV,hE⟩:=hrel;by_cases kW:k≤2
      ·by_cases hks2:k=s.size
       ·have zM:=hid (show esc s.data.toList=(0,0,21)from by rw[hE.o,QFc s k (by omega),show 3-k=(2-k)+1 from by omega];rfl);have pq:((k:Int)==(s.size:Int))=true:=by simp;omega
        clear hks2;go_wp2_with fail;go_ret3;exact⟨by rw[zM.o];rfl,_,rfl⟩
       have pq:((k:Int)==(s.size:Int))=false:=by simp;omega
       have uP:k<s.size:=by omega
       have GD:=QDj s[k].toNat;have Ks:=hid (show esc s.data.toList=if s[k].toNat=10 then(0,0,21)else if Qrg s[k].toNat<0 then(0,0,6)else hx2 (3-(k+1)) (s.data.toList.drop (k+1)) (16*x+Qrg s[k].toNat)from by rw[hE.o,Qdb s k uP,show 3-k=(3-(k+1))+1 from by omega];rfl);clear hks2;have jV:x≤15:=by
        have:k=1∨k=2:=by omega
        rcases this with rfl|rfl <;> omega
       have Ky:=hid MV;clear MV;by_cases k10:s[k].toNat=10
       ·have k10':((s[k].toNat:Int)==10)=true:=by simp[k10]
        have K10:=hid k10;clear k10;go_wp2_with(first | (go_at_call 211;refine(Q0d _ _ (by omega) (QRc _)).mono ?_;rintro e w' ⟨rfl,rfl⟩))
        go_ret3;exact⟨by rw[Ks.o,if_pos K10.o];rfl,_,rfl⟩
       have k10':((s[k].toNat:Int)==10)=false:=by simp;omega
       have K10:=hid k10;clear k10;by_cases hh:Qrg s[k].toNat<0
       ·go_wp2_with(first | (go_at_call 211;refine(Q0d _ _ (by omega) (QRc _)).mono ?_;rintro e w' ⟨rfl,rfl⟩))
        go_ret3;exact⟨by rw[Ks.o,if_neg K10.o,if_pos hh];rfl,_,rfl⟩
       have hh:0≤Qrg s[k].toNat:=by omega
       go_wp2_with(first | (go_at_call 211;refine(Q0d _ _ (by omega) (QRc _)).mono ?_;rintro e w' ⟨rfl,rfl⟩))
       go_round
       case rel=>exact⟨k+1,16*x+Qrg s[k].toNat,by omega,by omega,by omega,by go_num,by go_num,by omega,Q7r k x _ (by omega) Ky.o (by omega),by show _=_;rw[Ks.o,if_neg K10.o,if_neg (by omega)]⟩
       case measure=>simp[intOf];omega
      obtain rfl:k=3:=by omega
      have jV:x≤255:=by omega
      have Ky:=hid MV;clear MV;go_wp2_with fail;go_ret3;exact⟨by rw[hE.o];rfl,_,rfl⟩
    have jD:((s[0].toNat:Int) != 120)=true:=by simp;omega
    have rE:=hid h120;clear h120;go_wp2_with fail;go_ret3;exact⟨by rw[KU.o,if_pos rE.o];rfl,_,rfl⟩
   ·go_wp2_with fail;go_quiet(fail);go_wp2_with fail
    ·have hc:((s[0].toNat:Int)==((110:Nat):Int))=true:=by assumption
     go_ret3;exact⟨by rw[hF.o,if_pos (by simp at hc;omega)];rfl,_,rfl⟩
    have hc:((s[0].toNat:Int)==((110:Nat):Int))=false:=by assumption
    have hc':s[0].toNat≠110:=by simp at hc;omega
    go_roundw
    case rel=>exact⟨1,_,by omega,rfl,by have:=hB.o;refine⟨fun _=>hc',?_⟩;omega,rfl⟩
    case measure=>simp[intOf]
   ·go_wp2_with fail;go_quiet(fail);go_wp2_with fail
    ·have hc:((s[0].toNat:Int)==((116:Nat):Int))=true:=by assumption
     have hb:=hB.o;go_ret3;exact⟨by rw[hF.o,if_neg (by omega),if_pos (by simp at hc;omega)];rfl,_,rfl⟩
    have hc:((s[0].toNat:Int)==((116:Nat):Int))=false:=by assumption
    have hc':s[0].toNat≠116:=by simp at hc;omega
    go_roundw
    case rel=>exact⟨2,_,by omega,rfl,by have:=hB.o;refine⟨?_,?_,?_⟩ <;> omega,rfl⟩
    case measure=>simp[intOf]
   ·go_wp2_with fail;go_quiet(fail);go_wp2_with fail
    ·have hc:((s[0].toNat:Int)==((34:Nat):Int))=true:=by assumption
     have hb:=hB.o;go_ret3;exact⟨by rw[hF.o,if_neg (by omega),if_neg (by omega),if_pos (by simp at hc;omega)];rfl,_,rfl⟩
    have hc:((s[0].toNat:Int)==((34:Nat):Int))=false:=by assumption
    have hc':s[0].toNat≠34:=by simp at hc;omega
    go_roundw
    case rel=>exact⟨3,_,by omega,rfl,by have:=hB.o;refine⟨?_,?_,?_⟩ <;> omega,rfl⟩
    case measure=>simp[intOf]
   go_wp2_with fail;go_quiet(fail);go_wp2_with fail
   ·have hc:((s[0].toNat:Int)==((92:Nat):Int))=true:=by assumption
    have hb:=hB.o;go_ret3;exact⟨by rw[hF.o,if_neg (by omega),if_neg (by omega),if_neg (by omega),if_pos (by simp at hc;omega)];rfl,_,rfl⟩
   have hc:((s[0].toNat:Int)==((92:Nat):Int))=false:=by assumption
   have hc':s[0].toNat≠92:=by simp at hc;omega
   go_roundw
   case rel=>exact⟨4,_,by omega,rfl,by have:=hB.o;refine⟨?_,?_,?_,?_⟩ <;> omega,rfl⟩
   case measure=>simp[intOf]
end Go.Proofs.YtgaboghigefgbaaGreatDoor
