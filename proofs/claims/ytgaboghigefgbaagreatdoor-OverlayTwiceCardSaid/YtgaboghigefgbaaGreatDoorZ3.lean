/- Contracts of the small byte functions of token. | Contracts of the reader's methods of token. | The contract of Name of token. | Contracts of the small functions of the reference of token: letters, names. -/
import Derived.Test.YtgaboghigefgbaaGreatDoorZ1
import Derived.Test.YtgaboghigefgbaaGreatDoorZ2
import Derived.Test.YtgaboghigefgbaaGreatDoorShelf
import Derived.WalkKit
import Derived.WalkSpells
import Derived.WalkLawsBesides
import Derived.Lib.Hide
import Derived.Deep.QuietTactic
import Derived.BigQuiet
set_option linter.all false
set_option maxHeartbeats 8000000
namespace Go.Proofs.YtgaboghigefgbaaGreatDoor
open Go.Lib (hid)
open Go.RowKit
theorem QKa(c:Int)(w:World) :
 Calls Tryz.prog 93 #[.int .u8 c] w fun e w'=>e = .returned (.bool (QHa c))∧w=w':=by
 go_enter Tryz.func93,Tryz.ntmps93
 go_wp2
 all_goals (go_ret;exact⟨Qha (by unfold QHa;rw[Bool.eq_iff_iff];simp <;> omega),rfl⟩)
theorem Q1a(c:Int)(w:World) :
 Calls Tryz.prog 180 #[.int .u8 c] w fun e w'=>e = .returned (.bool (Qvc c))∧w=w':=by
 go_enter Tryz.func180,Tryz.ntmps180
 go_wp2
 all_goals (go_ret;exact⟨Qha (by unfold Qvc;rw[Bool.eq_iff_iff];simp <;> omega),rfl⟩)
theorem QKg(c:Int)(w:World) :
 Calls Tryz.prog 130 #[.int .u8 c] w fun e w'=>e = .returned (.bool (QWb c))∧w=w':=by
 go_enter Tryz.func130,Tryz.ntmps130
 go_wp2_with (first | (go_at_call 93;refine(QKa _ _).mono ?_;rintro e w' ⟨rfl,rfl⟩) | (go_at_call 180;refine(Q1a _ _).mono ?_;rintro e w' ⟨rfl,rfl⟩))
 all_goals (go_ret;exact⟨Qha (by unfold QWb;rw[Bool.eq_iff_iff];simp[*]),rfl⟩)
theorem Qwm(c:Int)(w:World) :
 Calls Tryz.prog 196 #[.int .u8 c] w fun e w'=>e = .returned (.bool (Qqd c))∧w=w':=by
 go_enter Tryz.func196,Tryz.ntmps196
 go_wp2
 all_goals (go_ret;exact⟨Qha (by unfold Qqd;rw[Bool.eq_iff_iff];simp <;> omega),rfl⟩)
def QXj(g:Nat)(p:Int→Bool):Prop:=∀(c:Int) (w:World),0≤c→c≤255→Calls Tryz.prog g #[.int .u8 c] w fun e w'=>e = .returned (.bool (p c))∧w=w'
theorem QZe(s:ByteArray)(g:Nat)(p:Int→Bool)(w:World)(hp:QXj g p)(eg:∀args w,(callFunc g args).run Tryz.prog w = .ok (.enter g args) w)(hs:s.size≤maxLen) :
 Calls Tryz.prog 94 #[.string s,.func (.func g) #[] #[]] w fun e w'=>e = .returned (.bool (Qej p s.data.toList))∧w=w':=by
 unfold maxLen at hs
 go_enter Tryz.func94,Tryz.ntmps94
 go_wp2
 go_loop [8] (fun i=>∃k:Nat,k≤s.size∧i = .int .i64 k∧Hid (Qej p s.data.toList=Qej p (s.data.toList.drop k))) (fun i=>s.size-(intOf i).toNat)
 case atStart=>exact⟨0,Nat.zero_le _,rfl,rfl⟩
 case round=>
  obtain⟨k,hk,rfl,hB⟩:=hrel
  by_cases Hh:k<s.size
  ·have hd:=QCb s k Hh
   have hD:=hid hd;clear hd
   by_cases mR:p s[k].toNat=true
   ·go_wp2_with fail
    refine(hp _ _ (by omega) (Q0c _)).mono ?_
    rintro e w' ⟨rfl,rfl⟩
    go_wp2_with fail
    go_round
    case rel=>exact⟨k+1,by omega,by go_num,by rw[hB.out,hD.out,QIe,mR,Bool.true_and];rfl⟩
    case measure=>simp[intOf];omega
   ·have mR:p s[k].toNat=false:=by simpa using mR
    go_wp2_with fail
    refine(hp _ _ (by omega) (Q0c _)).mono ?_
    rintro e w' ⟨rfl,rfl⟩
    go_wp2_with fail
    go_ret
    exact⟨Qha (by rw[hB.out,hD.out,QIe,mR,Bool.false_and]),rfl⟩
  ·go_wp2
   go_ret
   exact⟨Qha (by rw[hB.out,QOc s k (by omega)];rfl),rfl⟩
theorem Qki(s:ByteArray)(a:Nat)(g:Nat)(p:Int→Bool)(w:World)(hp:QXj g p)(eg:∀args w,(callFunc g args).run Tryz.prog w = .ok (.enter g args) w)(hs:s.size≤maxLen)(ha:a≤s.size) :
 Calls Tryz.prog 192 #[.string s,.int .i64 a,.func (.func g) #[] #[]] w fun e w'=>e = .returned (.int .i64 (QFc p (s.data.toList.drop a)))∧w=w':=by
 unfold maxLen at hs
 go_enter Tryz.func192,Tryz.ntmps192
 go_wp2
 go_loop [7] (fun i=>∃k:Nat,a≤k∧k≤s.size∧i = .int .i64 k∧Hid (QFc p (s.data.toList.drop a)+a=QFc p (s.data.toList.drop k)+k)) (fun i=>s.size-(intOf i).toNat)
 case atStart=>exact⟨a,Nat.le_refl _,ha,rfl,rfl⟩
 case round=>
  obtain⟨k,hak,hk,rfl,hB⟩:=hrel
  by_cases Hh:k<s.size
  ·have hD:=hid (QCb s k Hh)
   by_cases mR:p s[k].toNat=true
   ·go_wp2_with fail
    refine(hp _ _ (by omega) (Q0c _)).mono ?_
    rintro e w' ⟨rfl,rfl⟩
    go_wp2_with fail
    go_round
    case rel=>exact⟨k+1,by omega,by omega,by go_num,by have:=hB.out;rw[hD.out,Qig,if_pos mR]at this;show _=_;omega⟩
    case measure=>simp[intOf];omega
   ·have mR:p s[k].toNat=false:=by simpa using mR
    have hF:Hid (QFc p (s.data.toList.drop a)+a=k):=by have:=hB.out;rw[hD.out,Qig,if_neg (by simp[mR])]at this;show _=_;omega
    go_wp2_with fail
    refine(hp _ _ (by omega) (Q0c _)).mono ?_
    rintro e w' ⟨rfl,rfl⟩
    go_wp2_with fail
    go_ret
    exact⟨QUa (by have:=hF.out;omega),rfl⟩
  ·have hF:Hid (QFc p (s.data.toList.drop a)+a=k):=by have:=hB.out;rw[QOc s k (by omega)]at this;simp[QFc]at this;show _=_;unfold QFc;omega
   go_wp2_with fail
   go_ret
   exact⟨QUa (by have:=hF.out;omega),rfl⟩
def Qsc(s:ByteArray)(i:Nat)(file line col:Int):Array Value:=#[.string s,.int .i64 i,.int .i64 file,.int .i64 line,.int .i64 col]
theorem Q9e{w:World}{b:Nat}{s:ByteArray}{i:Nat}{file line col:Int}{t:TypeId}(h:Holds w b (Qsc s i file line col) t) :
 w.cell? ⟨b,0,none⟩=some (.string s)∧w.cell? ⟨b,1,none⟩=some (.int .i64 i)∧w.cell? ⟨b,2,none⟩=some (.int .i64 file)∧w.cell? ⟨b,3,none⟩=some (.int .i64 line)∧w.cell? ⟨b,4,none⟩=some (.int .i64 col)∧
 w.frozen? ⟨b,0,none⟩=false∧w.frozen? ⟨b,1,none⟩=false∧w.frozen? ⟨b,2,none⟩=false∧w.frozen? ⟨b,3,none⟩=false∧w.frozen? ⟨b,4,none⟩=false:=
 ⟨h.cell 0,h.cell 1,h.cell 2,h.cell 3,h.cell 4,h.free 0,h.free 1,h.free 2,h.free 3,h.free 4⟩
theorem Q3i(s:ByteArray)(i:Nat)(file line col:Int)(b:Nat)(w:World)(h:Holds w b (Qsc s i file line col) 183)(hi:i≤s.size)(_hs:s.size≤maxLen) :
 Calls Tryz.prog 158 #[.pointer (some ⟨b,0,none⟩)] w fun e w'=>e = .returned (.string (s.extract i s.size))∧∃n,w'=w.drewN n:=by
 have hs:=_hs
 unfold maxLen at hs
 obtain⟨c0,c1,c2,c3,c4,f0,f1,f2,f3,f4⟩:=Q9e h
 go_enter Tryz.func158,Tryz.ntmps158
 go_wp2
 go_quiet (fail)
 go_wp2
 go_ret
 exact⟨rfl,_,rfl⟩
theorem QWq(s:ByteArray)(i j:Nat)(h:i≤j)(hj:j<s.size)(p:Int × Int) :
 adv ((s.data.toList.drop i).take (j+1-i)) p=if s[j].toNat=10 then((adv ((s.data.toList.drop i).take (j-i)) p).1+1,1)else((adv ((s.data.toList.drop i).take (j-i)) p).1,(adv ((s.data.toList.drop i).take (j-i)) p).2+1):=by
 have e:(s.data.toList.drop i).take (j+1-i)=(s.data.toList.drop i).take (j-i)++[s[j]]:=by
  rw[show j+1-i=(j-i)+1 from by omega,List.take_succ_eq_append_getElem (by simp;omega)]
  congr 2
  rw[List.getElem_drop]
  simp only[show i+(j-i)=j from by omega];rfl
 rw[e,QVq]
theorem Q7i(s:ByteArray)(i n:Nat)(file line col:Int)(b:Nat)(w:World)(h:Holds w b (Qsc s i file line col) 183)(hi:i+n≤s.size)(hs:s.size≤140737488355328)
 (hl:1≤line) (hl':line≤i+1) (hc:1≤col) (hc':col≤i+1) :
 Calls Tryz.prog 160 #[.pointer (some ⟨b,0,none⟩),.int .i64 n] w fun e w'=>e = .returned (.tuple #[])∧
  Holds w' b (Qsc s (i+n) file (adv ((s.data.toList.drop i).take n) (line,col)).1 (adv ((s.data.toList.drop i).take n) (line,col)).2) 183∧Qaa (· = b) w w':=by
 go_enter Tryz.func160,Tryz.ntmps160
 go_wp2
 go_loopw [1] (fun n' wr=>∃j m:Nat,∃l c:Int,i≤j∧j+m=i+n∧n' = .int .i64 m∧1≤l∧l≤j+1∧1≤c∧c≤j+1∧Hid ((l,c)=adv ((s.data.toList.drop i).take (j-i)) (line,col))∧Holds wr b (Qsc s j file l c) 183∧Qaa (· = b) w wr) (fun n' _=>(intOf n').toNat)
 case atStart=>exact⟨i,n,line,col,Nat.le_refl _,rfl,rfl,hl,hl',hc,hc',by simp[Hid,adv],h,Qaa.refl _ _⟩
 case round=>
  obtain⟨j,m,l,c,kt,yy,rfl,GO,Ge,gM,gB,hA,hH,hK⟩:=hrel
  obtain⟨c0,c1,c2,c3,c4,f0,f1,f2,f3,f4⟩:=Q9e hH
  by_cases hm:0<m
  ·have yz:j<s.size:=by omega
   have hS:=hid (QWq s i j kt yz (line,col))
   have vk:m≤140737488355328:=by omega
   have sD:=hid yy;clear yy
   have hA':=hA.out
   by_cases Gk:s[j].toNat=10
   ·have bm:((s[j].toNat:Int) == 10)=true:=by simp[Gk]
    have hN:Hid (((l+1:Int),(1:Int))=adv ((s.data.toList.drop i).take (j+1-i)) (line,col)):=by show _=_;rw[hS.out,if_pos Gk,←hA']
    clear Gk hS hA'
    go_wp2
    go_quiet (fail)
    go_wp2
    go_roundw
    case rel=>
     exact⟨j+1,m-1,l+1,1,by omega,by have:=sD.out;omega,by rw[show((m:Int)-1)=((m-1:Nat):Int)from by omega],by omega,by omega,by omega,by omega,hN,
      (((((hH.set 4 _).drewN nq).set 3 _).set 4 _).set 1 _),((((hK.setCell (.inr rfl) _).drewN nq).setCell (.inr rfl) _).setCell (.inr rfl) _).setCell (.inr rfl) _⟩
    case measure=>simp[intOf];omega
   ·have bm:((s[j].toNat:Int) == 10)=false:=by simp;omega
    have hN:Hid ((l,c+1)=adv ((s.data.toList.drop i).take (j+1-i)) (line,col)):=by show _=_;rw[hS.out,if_neg Gk,←hA']
    clear Gk hS hA'
    go_wp2
    go_quiet (fail)
    go_wp2
    go_roundw
    case rel=>
     exact⟨j+1,m-1,l,c+1,by omega,by have:=sD.out;omega,by rw[show((m:Int)-1)=((m-1:Nat):Int)from by omega],by omega,by omega,by omega,by omega,hN,
      (((hH.set 4 _).drewN nq).set 1 _),((hK.setCell (.inr rfl) _).drewN nq).setCell (.inr rfl) _⟩
    case measure=>simp[intOf];omega
  ·have:m=0:=by omega
   subst this
   go_wp2
   go_end0
   obtain rfl:j=i+n:=by omega
   refine⟨rfl,?_,hK⟩
   have:=hA.out
   rw[show i+n-i=n from by omega]at this
   rw[←this];exact hH
theorem QJg:QXj 95 QYb:=by
 intro c w h0 h1
 have hm:=hid (QOl [44,46,43,45,63,35,64] c h0 h1)
 go_enter Tryz.func95,Tryz.ntmps95
 by_cases hw:QWb c=true
 ·go_wp2_with (first | (go_at_call 130;refine(QKg _ _).mono ?_;rintro e w' ⟨rfl,rfl⟩) | (go_at_call 131;refine(Tryz.strings_IndexByte _ _ _).mono ?_;rintro e w' ⟨rfl,rfl⟩))
  go_ret
  exact⟨Qha (by unfold QYb;rw[hw];rfl),rfl⟩
 ·have hw:QWb c=false:=by simpa using hw
  go_wp2_with (first | (go_at_call 130;refine(QKg _ _).mono ?_;rintro e w' ⟨rfl,rfl⟩) | (go_at_call 131;refine(Tryz.strings_IndexByte _ _ _).mono ?_;rintro e w' ⟨rfl,rfl⟩))
  go_ret
  exact⟨Qha (by unfold QYb Q6p;rw[hw,Bool.false_or,←hm.out]),rfl⟩
theorem QEf:∀args w,(callFunc 95 args).run Tryz.prog w = .ok (.enter 95 args) w:=enters_of Tryz.func95 (by kernel_rfl) rfl
theorem Qac(s:ByteArray)(w:World)(hs:s.size≤maxLen) :
 Calls Tryz.prog 50 #[.string s] w fun e w'=>e = .returned (.bool (Q0a s.data.toList))∧w=w':=by
 have hs':=hs
 unfold maxLen at hs'
 have hF:=hid (show Q0a s.data.toList=(decide (1≤s.size∧s.size≤31) && (QHa (s.data.toList.headD 0).toNat || decide (((s.data.toList.headD 0).toNat:Int)=95)) && Qej QYb s.data.toList)from by unfold Q0a;simp)
 by_cases h1:1≤s.size
 ·by_cases h2:s.size≤31
  ·have hH:=hid (Qid s h1)
   by_cases hl:QHa s[0].toNat=true
   ·go_enter Tryz.func50,Tryz.ntmps50
    go_wp2_with (first | (go_at_call 93;refine(QKa _ _).mono ?_;rintro e w' ⟨rfl,rfl⟩) | (go_at_call 94;refine(QZe _ 95 QYb _ QJg QEf hs).mono ?_;rintro e w' ⟨rfl,rfl⟩))
    go_ret
    exact⟨Qha (by rw[hF.out,hH.out,hl,decide_eq_true ⟨h1,h2⟩];rfl),rfl⟩
   ·have hl:QHa s[0].toNat=false:=by simpa using hl
    by_cases h95:(s[0].toNat:Int)=95
    ·have wS:((s[0].toNat:Int) == 95)=true:=by simpa using h95
     have vF:=hid h95;clear h95
     go_enter Tryz.func50,Tryz.ntmps50
     go_wp2_with (first | (go_at_call 93;refine(QKa _ _).mono ?_;rintro e w' ⟨rfl,rfl⟩) | (go_at_call 94;refine(QZe _ 95 QYb _ QJg QEf hs).mono ?_;rintro e w' ⟨rfl,rfl⟩))
     go_ret
     exact⟨Qha (by rw[hF.out,hH.out,hl,decide_eq_true ⟨h1,h2⟩,decide_eq_true vF.out];rfl),rfl⟩
    ·have wS:((s[0].toNat:Int) == 95)=false:=by simpa using h95
     have vF:=hid h95;clear h95
     go_enter Tryz.func50,Tryz.ntmps50
     go_wp2_with (first | (go_at_call 93;refine(QKa _ _).mono ?_;rintro e w' ⟨rfl,rfl⟩))
     go_ret
     exact⟨Qha (by rw[hF.out,hH.out,hl,decide_eq_true ⟨h1,h2⟩,decide_eq_false vF.out];rfl),rfl⟩
  ·go_enter Tryz.func50,Tryz.ntmps50
   go_wp2_with fail
   go_ret
   exact⟨Qha (by rw[hF.out,decide_eq_false (by omega)];rfl),rfl⟩
 ·go_enter Tryz.func50,Tryz.ntmps50
  go_wp2_with fail
  go_ret
  exact⟨Qha (by rw[hF.out,decide_eq_false (by omega)];rfl),rfl⟩
theorem QFg(c:Int)(w:World) :
 Calls Tryz.prog 99 #[.int .u8 c] w fun e w'=>e = .returned (.bool (QHa c))∧w=w':=by
 go_enter Tryz.func99,Tryz.ntmps99
 go_wp2
 all_goals (go_ret;exact⟨Qha (by unfold QHa;rw[Bool.eq_iff_iff];simp <;> omega),rfl⟩)
theorem QNr(c:Int)(w:World) :
 Calls Tryz.prog 137 #[.int .u8 c] w fun e w'=>e = .returned (.bool (QWb c))∧w=w':=by
 go_enter Tryz.func137,Tryz.ntmps137
 go_wp2_with (first | (go_at_call 99;refine(QFg _ _).mono ?_;rintro e w' ⟨rfl,rfl⟩))
 all_goals (go_ret;exact⟨Qha (by unfold QWb Qvc;rw[Bool.eq_iff_iff];simp[*] <;> omega),rfl⟩)
theorem QNe(x:UInt8)(l:List UInt8)(c:Int):Qpf (x::l) c=(decide ((x.toNat:Int)=c) || Qpf l c):=by simp[Qpf]
theorem Qeq(c:Int)(s:ByteArray)(w:World)(hs:s.size≤maxLen) :
 Calls Tryz.prog 138 #[.int .u8 c,.string s] w fun e w'=>e = .returned (.bool (Qpf s.data.toList c))∧w=w':=by
 unfold maxLen at hs
 go_enter Tryz.func138,Tryz.ntmps138
 go_wp2
 go_loop [5] (fun i=>∃k:Nat,k≤s.size∧i = .int .i64 k∧Hid (Qpf s.data.toList c=Qpf (s.data.toList.drop k) c)) (fun i=>s.size-(intOf i).toNat)
 case atStart=>exact⟨0,Nat.zero_le _,rfl,rfl⟩
 case round=>
  obtain⟨k,hk,rfl,hB⟩:=hrel
  by_cases Hh:k<s.size
  ·have hD:=hid (QCb s k Hh)
   by_cases hc:(s[k].toNat:Int)=c
   ·have hc':((s[k].toNat:Int) == c)=true:=by simpa using hc
    have HC:=hid hc;clear hc
    go_wp2_with fail
    go_ret
    exact⟨Qha (by rw[hB.out,hD.out,QNe,decide_eq_true HC.out];rfl),rfl⟩
   ·have hc':((s[k].toNat:Int) == c)=false:=by simpa using hc
    have HC:=hid hc;clear hc
    go_wp2_with fail
    go_round
    case rel=>exact⟨k+1,by omega,by go_num,by show _=_;rw[hB.out,hD.out,QNe,decide_eq_false HC.out,Bool.false_or]⟩
    case measure=>simp[intOf];omega
  ·go_wp2
   go_ret
   exact⟨Qha (by rw[hB.out,QOc s k (by omega)];rfl),rfl⟩
theorem Q5m(c:Int)(w:World) :
 Calls Tryz.prog 100 #[.int .u8 c] w fun e w'=>e = .returned (.bool (QYb c))∧w=w':=by
 go_enter Tryz.func100,Tryz.ntmps100
 cases hw:QWb c
 all_goals
  go_wp2_with (first | (go_at_call 137;refine(QNr _ _).mono ?_;rintro e w' ⟨rfl,rfl⟩) | (go_at_call 138;refine(Qeq _ _ _ (by decide)).mono ?_;rintro e w' ⟨rfl,rfl⟩))
  go_ret
  exact⟨Qha (by unfold QYb Q6p;rw[hw];rfl),rfl⟩
theorem Qhg(s:ByteArray)(w:World)(hs:s.size≤maxLen) :
 Calls Tryz.prog 54 #[.string s] w fun e w'=>e = .returned (.bool (Q0a s.data.toList))∧w=w':=by
 have hs':=hs
 unfold maxLen at hs'
 have hF:=hid (show Q0a s.data.toList=(decide (1≤s.size∧s.size≤31) && (QHa (s.data.toList.headD 0).toNat || decide (((s.data.toList.headD 0).toNat:Int)=95)) && Qej QYb s.data.toList)from by unfold Q0a;simp)
 by_cases h1:1≤s.size
 ·by_cases h2:s.size≤31
  ·have hH:=hid (Qid s h1)
   have H7:(QHa s[0].toNat=true∨QHa s[0].toNat=false∧((s[0].toNat:Int) != 95)=false)∨QHa s[0].toNat=false∧((s[0].toNat:Int) != 95)=true:=by
    cases QHa s[0].toNat with
    | true=>exact .inl (.inl rfl)
    | false=>
     cases h:((s[0].toNat:Int) != 95)
     ·exact .inl (.inr ⟨rfl,rfl⟩)
     ·exact .inr ⟨rfl,rfl⟩
   rcases H7 with H7|⟨c1,c2⟩
   ·have mN:=hid (show Q0a s.data.toList=Qej QYb s.data.toList from by
     rw[hF.out,hH.out,decide_eq_true ⟨h1,h2⟩]
     rcases H7 with h|⟨h,h'⟩
     ·rw[h];rfl
     ·rw[h,decide_eq_true (by simpa using h')];rfl)
    rcases H7 with c1|⟨c1,c2⟩
    all_goals
     go_enter Tryz.func54,Tryz.ntmps54
     go_wp2_with (first | (go_at_call 99;refine(QFg _ _).mono ?_;rintro e w' ⟨rfl,rfl⟩))
     go_loop [3] (fun i=>∃k:Nat,k≤s.size∧i = .int .i64 k∧Hid (Qej QYb s.data.toList=Qej QYb (s.data.toList.drop k))) (fun i=>s.size-(intOf i).toNat)
     case atStart=>exact⟨0,Nat.zero_le _,rfl,rfl⟩
     case round=>
      obtain⟨k,hk,rfl,hB⟩:=hrel
      by_cases Hh:k<s.size
      ·have hD:=hid (QCb s k Hh)
       cases mR:QYb s[k].toNat
       ·go_wp2_with (first | (go_at_call 100;refine(Q5m _ _).mono ?_;rintro e w' ⟨rfl,rfl⟩))
        go_ret
        exact⟨Qha (by rw[mN.out,hB.out,hD.out,QIe,mR,Bool.false_and]),rfl⟩
       ·go_wp2_with (first | (go_at_call 100;refine(Q5m _ _).mono ?_;rintro e w' ⟨rfl,rfl⟩))
        go_round
        case rel=>exact⟨k+1,by omega,by go_num,by show _=_;rw[hB.out,hD.out,QIe,mR,Bool.true_and]⟩
        case measure=>simp[intOf];omega
      ·go_wp2
       go_ret
       exact⟨Qha (by rw[mN.out,hB.out,QOc s k (by omega)];rfl),rfl⟩
   ·go_enter Tryz.func54,Tryz.ntmps54
    go_wp2_with (first | (go_at_call 99;refine(QFg _ _).mono ?_;rintro e w' ⟨rfl,rfl⟩))
    go_ret
    exact⟨Qha (by rw[hF.out,hH.out,c1,decide_eq_false (p:=((s[0].toNat:Int)=95)) (by simpa using c2)];simp),rfl⟩
  ·go_enter Tryz.func54,Tryz.ntmps54
   go_wp2_with fail
   go_ret
   exact⟨Qha (by rw[hF.out,decide_eq_false (by omega)];rfl),rfl⟩
 ·go_enter Tryz.func54,Tryz.ntmps54
  go_wp2_with fail
  go_ret
  exact⟨Qha (by rw[hF.out,decide_eq_false (by omega)];rfl),rfl⟩
end Go.Proofs.YtgaboghigefgbaaGreatDoor
