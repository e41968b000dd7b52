/- Contracts of the small byte functions of token. | Contracts of the reader's methods of token. | The contract of Name of token. | Contracts of the small functions of the reference of token: letters, names. -/
import Derived.Test.YtofhcgbihonckaaGreatY1
import Derived.Test.YtofhcgbihonckaaGreatY2
import Derived.Test.YtofhcgbihonckaaGreatShelf
import Derived.WalkKit
import Derived.WalkSpells
import Derived.WalkLawsBesides
import Derived.Lib.Hide
import Derived.Deep.QuietTactic
import Derived.BigQuiet
set_option linter.all false
set_option maxHeartbeats 8000000
namespace Go.Proofs.YtofhcgbihonckaaGreat
open Go.Lib (hid)
open Go.RowKit
theorem QDa(c:Int)(w:World) :
 Calls Tryz.prog 84 #[.int .u8 c] w fun e w'=>e = .returned (.bool (Qja c))∧w=w':=by
 go_enter Tryz.func84,Tryz.ntmps84
 go_wp2
 all_goals (go_ret;exact⟨Qka (by unfold Qja;rw[Bool.eq_iff_iff];simp <;> omega),rfl⟩)
theorem QMa(c:Int)(w:World) :
 Calls Tryz.prog 88 #[.int .u8 c] w fun e w'=>e = .returned (.bool (QOa c))∧w=w':=by
 go_enter Tryz.func88,Tryz.ntmps88
 go_wp2
 all_goals (go_ret;exact⟨Qka (by unfold QOa;rw[Bool.eq_iff_iff];simp <;> omega),rfl⟩)
theorem Q8e(c:Int)(w:World) :
 Calls Tryz.prog 87 #[.int .u8 c] w fun e w'=>e = .returned (.bool (QIa c))∧w=w':=by
 go_enter Tryz.func87,Tryz.ntmps87
 go_wp2_with (first | (go_at_call 84;refine(QDa _ _).mono ?_;rintro e w' ⟨rfl,rfl⟩) | (go_at_call 88;refine(QMa _ _).mono ?_;rintro e w' ⟨rfl,rfl⟩))
 all_goals (go_ret;exact⟨Qka (by unfold QIa;rw[Bool.eq_iff_iff];simp[*]),rfl⟩)
theorem Qyj(c:Int)(w:World) :
 Calls Tryz.prog 91 #[.int .u8 c] w fun e w'=>e = .returned (.bool (QQa c))∧w=w':=by
 go_enter Tryz.func91,Tryz.ntmps91
 go_wp2
 all_goals (go_ret;exact⟨Qka (by unfold QQa;rw[Bool.eq_iff_iff];simp <;> omega),rfl⟩)
def QRh(g:Nat)(p:Int→Bool):Prop:=∀(c:Int) (w:World),0≤c→c≤255→Calls Tryz.prog g #[.int .u8 c] w fun e w'=>e = .returned (.bool (p c))∧w=w'
theorem QId(s:ByteArray)(g:Nat)(p:Int→Bool)(w:World)(hp:QRh g p)(eg:∀args w,(callFunc g args).run Tryz.prog w = .ok (.enter g args) w)(hs:s.size≤maxLen) :
 Calls Tryz.prog 86 #[.string s,.func (.func g) #[] #[]] w fun e w'=>e = .returned (.bool (Qaf p s.data.toList))∧w=w':=by
 unfold maxLen at hs
 go_enter Tryz.func86,Tryz.ntmps86
 go_wp2
 go_loop [8] (fun i=>∃k:Nat,k≤s.size∧i = .int .i64 k∧Hid (Qaf p s.data.toList=Qaf p (s.data.toList.drop k))) (fun i=>s.size-(intOf i).toNat)
 case atStart=>exact⟨0,Nat.zero_le _,rfl,rfl⟩
 case round=>
  obtain⟨k,hk,rfl,hB⟩:=hrel
  by_cases Hj:k<s.size
  ·have hd:=Qxa s k Hj
   have hD:=hid hd;clear hd
   by_cases jH:p s[k].toNat=true
   ·go_wp2_with fail
    refine(hp _ _ (by omega) (QLb _)).mono ?_
    rintro e w' ⟨rfl,rfl⟩
    go_wp2_with fail
    go_round
    case rel=>exact⟨k+1,by omega,by go_num,by rw[hB.out,hD.out,Qzc,jH,Bool.true_and];rfl⟩
    case measure=>simp[intOf];omega
   ·have jH:p s[k].toNat=false:=by simpa using jH
    go_wp2_with fail
    refine(hp _ _ (by omega) (QLb _)).mono ?_
    rintro e w' ⟨rfl,rfl⟩
    go_wp2_with fail
    go_ret
    exact⟨Qka (by rw[hB.out,hD.out,Qzc,jH,Bool.false_and]),rfl⟩
  ·go_wp2
   go_ret
   exact⟨Qka (by rw[hB.out,Q9a s k (by omega)];rfl),rfl⟩
theorem Qgg(s:ByteArray)(a:Nat)(g:Nat)(p:Int→Bool)(w:World)(hp:QRh g p)(eg:∀args w,(callFunc g args).run Tryz.prog w = .ok (.enter g args) w)(hs:s.size≤maxLen)(ha:a≤s.size) :
 Calls Tryz.prog 81 #[.string s,.int .i64 a,.func (.func g) #[] #[]] w fun e w'=>e = .returned (.int .i64 (QSa p (s.data.toList.drop a)))∧w=w':=by
 unfold maxLen at hs
 go_enter Tryz.func81,Tryz.ntmps81
 go_wp2
 go_loop [7] (fun i=>∃k:Nat,a≤k∧k≤s.size∧i = .int .i64 k∧Hid (QSa p (s.data.toList.drop a)+a=QSa p (s.data.toList.drop k)+k)) (fun i=>s.size-(intOf i).toNat)
 case atStart=>exact⟨a,Nat.le_refl _,ha,rfl,rfl⟩
 case round=>
  obtain⟨k,hak,hk,rfl,hB⟩:=hrel
  by_cases Hj:k<s.size
  ·have hD:=hid (Qxa s k Hj)
   by_cases jH:p s[k].toNat=true
   ·go_wp2_with fail
    refine(hp _ _ (by omega) (QLb _)).mono ?_
    rintro e w' ⟨rfl,rfl⟩
    go_wp2_with fail
    go_round
    case rel=>exact⟨k+1,by omega,by omega,by go_num,by have:=hB.out;rw[hD.out,QEb,if_pos jH]at this;show _=_;omega⟩
    case measure=>simp[intOf];omega
   ·have jH:p s[k].toNat=false:=by simpa using jH
    have hF:Hid (QSa p (s.data.toList.drop a)+a=k):=by have:=hB.out;rw[hD.out,QEb,if_neg (by simp[jH])]at this;show _=_;omega
    go_wp2_with fail
    refine(hp _ _ (by omega) (QLb _)).mono ?_
    rintro e w' ⟨rfl,rfl⟩
    go_wp2_with fail
    go_ret
    exact⟨QDb (by have:=hF.out;omega),rfl⟩
  ·have hF:Hid (QSa p (s.data.toList.drop a)+a=k):=by have:=hB.out;rw[Q9a s k (by omega)]at this;simp[QSa]at this;show _=_;unfold QSa;omega
   go_wp2_with fail
   go_ret
   exact⟨QDb (by have:=hF.out;omega),rfl⟩
def QRb(s:ByteArray)(i:Nat)(file line col:Int):Array Value:=#[.string s,.int .i64 i,.int .i64 file,.int .i64 line,.int .i64 col]
theorem QSd{w:World}{b:Nat}{s:ByteArray}{i:Nat}{file line col:Int}{t:TypeId}(h:Qca w b (QRb s i file line col) t) :
 w.cell? ⟨b,0,none⟩=some (.string s)∧w.cell? ⟨b,1,none⟩=some (.int .i64 i)∧w.cell? ⟨b,2,none⟩=some (.int .i64 file)∧w.cell? ⟨b,3,none⟩=some (.int .i64 line)∧w.cell? ⟨b,4,none⟩=some (.int .i64 col)∧
 w.frozen? ⟨b,0,none⟩=false∧w.frozen? ⟨b,1,none⟩=false∧w.frozen? ⟨b,2,none⟩=false∧w.frozen? ⟨b,3,none⟩=false∧w.frozen? ⟨b,4,none⟩=false:=
 ⟨h.cell 0,h.cell 1,h.cell 2,h.cell 3,h.cell 4,h.free 0,h.free 1,h.free 2,h.free 3,h.free 4⟩
theorem QWg(s:ByteArray)(i:Nat)(file line col:Int)(b:Nat)(w:World)(h:Qca w b (QRb s i file line col) 98)(hi:i≤s.size)(_hs:s.size≤maxLen) :
 Calls Tryz.prog 49 #[.pointer (some ⟨b,0,none⟩)] w fun e w'=>e = .returned (.string (s.extract i s.size))∧∃n,w'=w.drewN n:=by
 have hs:=_hs
 unfold maxLen at hs
 obtain⟨c0,c1,c2,c3,c4,f0,f1,f2,f3,f4⟩:=QSd h
 go_enter Tryz.func49,Tryz.ntmps49
 go_wp2
 go_quiet (fail)
 go_wp2
 go_ret
 exact⟨rfl,_,rfl⟩
theorem QEj(s:ByteArray)(i j:Nat)(h:i≤j)(hj:j<s.size)(p:Int × Int) :
 adv ((s.data.toList.drop i).take (j+1-i)) p=if s[j].toNat=10 then((adv ((s.data.toList.drop i).take (j-i)) p).1+1,1)else((adv ((s.data.toList.drop i).take (j-i)) p).1,(adv ((s.data.toList.drop i).take (j-i)) p).2+1):=by
 have e:(s.data.toList.drop i).take (j+1-i)=(s.data.toList.drop i).take (j-i)++[s[j]]:=by
  rw[show j+1-i=(j-i)+1 from by omega,List.take_succ_eq_append_getElem (by simp;omega)]
  congr 2
  rw[List.getElem_drop]
  simp only[show i+(j-i)=j from by omega];rfl
 rw[e,QAm]
theorem Q0g(s:ByteArray)(i n:Nat)(file line col:Int)(b:Nat)(w:World)(h:Qca w b (QRb s i file line col) 98)(hi:i+n≤s.size)(hs:s.size≤140737488355328)
 (hl:1≤line) (hl':line≤i+1) (hc:1≤col) (hc':col≤i+1) :
 Calls Tryz.prog 51 #[.pointer (some ⟨b,0,none⟩),.int .i64 n] w fun e w'=>e = .returned (.tuple #[])∧
  Qca w' b (QRb s (i+n) file (adv ((s.data.toList.drop i).take n) (line,col)).1 (adv ((s.data.toList.drop i).take n) (line,col)).2) 98∧Qaa (· = b) w w':=by
 go_enter Tryz.func51,Tryz.ntmps51
 go_wp2
 go_loopw [1] (fun n' wr=>∃j m:Nat,∃l c:Int,i≤j∧j+m=i+n∧n' = .int .i64 m∧1≤l∧l≤j+1∧1≤c∧c≤j+1∧Hid ((l,c)=adv ((s.data.toList.drop i).take (j-i)) (line,col))∧Qca wr b (QRb s j file l c) 98∧Qaa (· = b) w wr) (fun n' _=>(intOf n').toNat)
 case atStart=>exact⟨i,n,line,col,Nat.le_refl _,rfl,rfl,hl,hl',hc,hc',by simp[Hid,adv],h,Qaa.refl _ _⟩
 case round=>
  obtain⟨j,m,l,c,GH,lu,rfl,Ks,KQ,mw,Kc,hA,hH,hK⟩:=hrel
  obtain⟨c0,c1,c2,c3,c4,f0,f1,f2,f3,f4⟩:=QSd hH
  by_cases hm:0<m
  ·have lx:j<s.size:=by omega
   have hS:=hid (QEj s i j GH lx (line,col))
   have lH:m≤140737488355328:=by omega
   have ai:=hid lu;clear lu
   have hA':=hA.out
   by_cases gY:s[j].toNat=10
   ·have kO:((s[j].toNat:Int) == 10)=true:=by simp[gY]
    have hN:Hid (((l+1:Int),(1:Int))=adv ((s.data.toList.drop i).take (j+1-i)) (line,col)):=by show _=_;rw[hS.out,if_pos gY,←hA']
    clear gY hS hA'
    go_wp2
    go_quiet (fail)
    go_wp2
    go_roundw
    case rel=>
     exact⟨j+1,m-1,l+1,1,by omega,by have:=ai.out;omega,by rw[show((m:Int)-1)=((m-1:Nat):Int)from by omega],by omega,by omega,by omega,by omega,hN,
      (((((hH.set 4 _).drewN nq).set 3 _).set 4 _).set 1 _),((((hK.setCell (.inr rfl) _).drewN nq).setCell (.inr rfl) _).setCell (.inr rfl) _).setCell (.inr rfl) _⟩
    case measure=>simp[intOf];omega
   ·have kO:((s[j].toNat:Int) == 10)=false:=by simp;omega
    have hN:Hid ((l,c+1)=adv ((s.data.toList.drop i).take (j+1-i)) (line,col)):=by show _=_;rw[hS.out,if_neg gY,←hA']
    clear gY hS hA'
    go_wp2
    go_quiet (fail)
    go_wp2
    go_roundw
    case rel=>
     exact⟨j+1,m-1,l,c+1,by omega,by have:=ai.out;omega,by rw[show((m:Int)-1)=((m-1:Nat):Int)from by omega],by omega,by omega,by omega,by omega,hN,
      (((hH.set 4 _).drewN nq).set 1 _),((hK.setCell (.inr rfl) _).drewN nq).setCell (.inr rfl) _⟩
    case measure=>simp[intOf];omega
  ·have:m=0:=by omega
   subst this
   go_wp2
   go_end0
   obtain rfl:j=i+n:=by omega
   refine⟨rfl,?_,hK⟩
   have:=hA.out
   rw[show i+n-i=n from by omega]at this
   rw[←this];exact hH
theorem Q6e:QRh 85 Q2a:=by
 intro c w h0 h1
 have hm:=hid (QZi [44,46,43,45,63,35,64] c h0 h1)
 go_enter Tryz.func85,Tryz.ntmps85
 by_cases hw:QIa c=true
 ·go_wp2_with (first | (go_at_call 87;refine(Q8e _ _).mono ?_;rintro e w' ⟨rfl,rfl⟩) | (go_at_call 79;refine(Tryz.strings_IndexByte _ _ _).mono ?_;rintro e w' ⟨rfl,rfl⟩))
  go_ret
  exact⟨Qka (by unfold Q2a;rw[hw];rfl),rfl⟩
 ·have hw:QIa c=false:=by simpa using hw
  go_wp2_with (first | (go_at_call 87;refine(Q8e _ _).mono ?_;rintro e w' ⟨rfl,rfl⟩) | (go_at_call 79;refine(Tryz.strings_IndexByte _ _ _).mono ?_;rintro e w' ⟨rfl,rfl⟩))
  go_ret
  exact⟨Qka (by unfold Q2a QMl;rw[hw,Bool.false_or,←hm.out]),rfl⟩
theorem Q9d:∀args w,(callFunc 85 args).run Tryz.prog w = .ok (.enter 85 args) w:=enters_of Tryz.func85 (by kernel_rfl) rfl
theorem Q7e(s:ByteArray)(w:World)(hs:s.size≤maxLen) :
 Calls Tryz.prog 123 #[.string s] w fun e w'=>e = .returned (.bool (QUa s.data.toList))∧w=w':=by
 have hs':=hs
 unfold maxLen at hs'
 have hF:=hid (show QUa s.data.toList=(decide (1≤s.size∧s.size≤31) && (Qja (s.data.toList.headD 0).toNat || decide (((s.data.toList.headD 0).toNat:Int)=95)) && Qaf Q2a s.data.toList)from by unfold QUa;simp)
 by_cases h1:1≤s.size
 ·by_cases h2:s.size≤31
  ·have hH:=hid (Q9b s h1)
   by_cases hl:Qja s[0].toNat=true
   ·go_enter Tryz.func123,Tryz.ntmps123
    go_wp2_with (first | (go_at_call 84;refine(QDa _ _).mono ?_;rintro e w' ⟨rfl,rfl⟩) | (go_at_call 86;refine(QId _ 85 Q2a _ Q6e Q9d hs).mono ?_;rintro e w' ⟨rfl,rfl⟩))
    go_ret
    exact⟨Qka (by rw[hF.out,hH.out,hl,decide_eq_true ⟨h1,h2⟩];rfl),rfl⟩
   ·have hl:Qja s[0].toNat=false:=by simpa using hl
    by_cases h95:(s[0].toNat:Int)=95
    ·have pm:((s[0].toNat:Int) == 95)=true:=by simpa using h95
     have nV:=hid h95;clear h95
     go_enter Tryz.func123,Tryz.ntmps123
     go_wp2_with (first | (go_at_call 84;refine(QDa _ _).mono ?_;rintro e w' ⟨rfl,rfl⟩) | (go_at_call 86;refine(QId _ 85 Q2a _ Q6e Q9d hs).mono ?_;rintro e w' ⟨rfl,rfl⟩))
     go_ret
     exact⟨Qka (by rw[hF.out,hH.out,hl,decide_eq_true ⟨h1,h2⟩,decide_eq_true nV.out];rfl),rfl⟩
    ·have pm:((s[0].toNat:Int) == 95)=false:=by simpa using h95
     have nV:=hid h95;clear h95
     go_enter Tryz.func123,Tryz.ntmps123
     go_wp2_with (first | (go_at_call 84;refine(QDa _ _).mono ?_;rintro e w' ⟨rfl,rfl⟩))
     go_ret
     exact⟨Qka (by rw[hF.out,hH.out,hl,decide_eq_true ⟨h1,h2⟩,decide_eq_false nV.out];rfl),rfl⟩
  ·go_enter Tryz.func123,Tryz.ntmps123
   go_wp2_with fail
   go_ret
   exact⟨Qka (by rw[hF.out,decide_eq_false (by omega)];rfl),rfl⟩
 ·go_enter Tryz.func123,Tryz.ntmps123
  go_wp2_with fail
  go_ret
  exact⟨Qka (by rw[hF.out,decide_eq_false (by omega)];rfl),rfl⟩
theorem Qcb(c:Int)(w:World) :
 Calls Tryz.prog 99 #[.int .u8 c] w fun e w'=>e = .returned (.bool (Qja c))∧w=w':=by
 go_enter Tryz.func99,Tryz.ntmps99
 go_wp2
 all_goals (go_ret;exact⟨Qka (by unfold Qja;rw[Bool.eq_iff_iff];simp <;> omega),rfl⟩)
theorem QPc(c:Int)(w:World) :
 Calls Tryz.prog 126 #[.int .u8 c] w fun e w'=>e = .returned (.bool (QIa c))∧w=w':=by
 go_enter Tryz.func126,Tryz.ntmps126
 go_wp2_with (first | (go_at_call 99;refine(Qcb _ _).mono ?_;rintro e w' ⟨rfl,rfl⟩))
 all_goals (go_ret;exact⟨Qka (by unfold QIa QOa;rw[Bool.eq_iff_iff];simp[*] <;> omega),rfl⟩)
theorem QDd(x:UInt8)(l:List UInt8)(c:Int):Qyd (x::l) c=(decide ((x.toNat:Int)=c) || Qyd l c):=by simp[Qyd]
theorem Q9f(c:Int)(s:ByteArray)(w:World)(hs:s.size≤maxLen) :
 Calls Tryz.prog 96 #[.int .u8 c,.string s] w fun e w'=>e = .returned (.bool (Qyd s.data.toList c))∧w=w':=by
 unfold maxLen at hs
 go_enter Tryz.func96,Tryz.ntmps96
 go_wp2
 go_loop [5] (fun i=>∃k:Nat,k≤s.size∧i = .int .i64 k∧Hid (Qyd s.data.toList c=Qyd (s.data.toList.drop k) c)) (fun i=>s.size-(intOf i).toNat)
 case atStart=>exact⟨0,Nat.zero_le _,rfl,rfl⟩
 case round=>
  obtain⟨k,hk,rfl,hB⟩:=hrel
  by_cases Hj:k<s.size
  ·have hD:=hid (Qxa s k Hj)
   by_cases hc:(s[k].toNat:Int)=c
   ·have hc':((s[k].toNat:Int) == c)=true:=by simpa using hc
    have HC:=hid hc;clear hc
    go_wp2_with fail
    go_ret
    exact⟨Qka (by rw[hB.out,hD.out,QDd,decide_eq_true HC.out];rfl),rfl⟩
   ·have hc':((s[k].toNat:Int) == c)=false:=by simpa using hc
    have HC:=hid hc;clear hc
    go_wp2_with fail
    go_round
    case rel=>exact⟨k+1,by omega,by go_num,by show _=_;rw[hB.out,hD.out,QDd,decide_eq_false HC.out,Bool.false_or]⟩
    case measure=>simp[intOf];omega
  ·go_wp2
   go_ret
   exact⟨Qka (by rw[hB.out,Q9a s k (by omega)];rfl),rfl⟩
theorem Qzf(c:Int)(w:World) :
 Calls Tryz.prog 127 #[.int .u8 c] w fun e w'=>e = .returned (.bool (Q2a c))∧w=w':=by
 go_enter Tryz.func127,Tryz.ntmps127
 cases hw:QIa c
 all_goals
  go_wp2_with (first | (go_at_call 126;refine(QPc _ _).mono ?_;rintro e w' ⟨rfl,rfl⟩) | (go_at_call 96;refine(Q9f _ _ _ (by decide)).mono ?_;rintro e w' ⟨rfl,rfl⟩))
  go_ret
  exact⟨Qka (by unfold Q2a QMl;rw[hw];rfl),rfl⟩
theorem QAh(s:ByteArray)(w:World)(hs:s.size≤maxLen) :
 Calls Tryz.prog 106 #[.string s] w fun e w'=>e = .returned (.bool (QUa s.data.toList))∧w=w':=by
 have hs':=hs
 unfold maxLen at hs'
 have hF:=hid (show QUa s.data.toList=(decide (1≤s.size∧s.size≤31) && (Qja (s.data.toList.headD 0).toNat || decide (((s.data.toList.headD 0).toNat:Int)=95)) && Qaf Q2a s.data.toList)from by unfold QUa;simp)
 by_cases h1:1≤s.size
 ·by_cases h2:s.size≤31
  ·have hH:=hid (Q9b s h1)
   have gO:(Qja s[0].toNat=true∨Qja s[0].toNat=false∧((s[0].toNat:Int) != 95)=false)∨Qja s[0].toNat=false∧((s[0].toNat:Int) != 95)=true:=by
    cases Qja s[0].toNat with
    | true=>exact .inl (.inl rfl)
    | false=>
     cases h:((s[0].toNat:Int) != 95)
     ·exact .inl (.inr ⟨rfl,rfl⟩)
     ·exact .inr ⟨rfl,rfl⟩
   rcases gO with gO|⟨c1,c2⟩
   ·have j7:=hid (show QUa s.data.toList=Qaf Q2a s.data.toList from by
     rw[hF.out,hH.out,decide_eq_true ⟨h1,h2⟩]
     rcases gO with h|⟨h,h'⟩
     ·rw[h];rfl
     ·rw[h,decide_eq_true (by simpa using h')];rfl)
    rcases gO with c1|⟨c1,c2⟩
    all_goals
     go_enter Tryz.func106,Tryz.ntmps106
     go_wp2_with (first | (go_at_call 99;refine(Qcb _ _).mono ?_;rintro e w' ⟨rfl,rfl⟩))
     go_loop [3] (fun i=>∃k:Nat,k≤s.size∧i = .int .i64 k∧Hid (Qaf Q2a s.data.toList=Qaf Q2a (s.data.toList.drop k))) (fun i=>s.size-(intOf i).toNat)
     case atStart=>exact⟨0,Nat.zero_le _,rfl,rfl⟩
     case round=>
      obtain⟨k,hk,rfl,hB⟩:=hrel
      by_cases Hj:k<s.size
      ·have hD:=hid (Qxa s k Hj)
       cases jH:Q2a s[k].toNat
       ·go_wp2_with (first | (go_at_call 127;refine(Qzf _ _).mono ?_;rintro e w' ⟨rfl,rfl⟩))
        go_ret
        exact⟨Qka (by rw[j7.out,hB.out,hD.out,Qzc,jH,Bool.false_and]),rfl⟩
       ·go_wp2_with (first | (go_at_call 127;refine(Qzf _ _).mono ?_;rintro e w' ⟨rfl,rfl⟩))
        go_round
        case rel=>exact⟨k+1,by omega,by go_num,by show _=_;rw[hB.out,hD.out,Qzc,jH,Bool.true_and]⟩
        case measure=>simp[intOf];omega
      ·go_wp2
       go_ret
       exact⟨Qka (by rw[j7.out,hB.out,Q9a s k (by omega)];rfl),rfl⟩
   ·go_enter Tryz.func106,Tryz.ntmps106
    go_wp2_with (first | (go_at_call 99;refine(Qcb _ _).mono ?_;rintro e w' ⟨rfl,rfl⟩))
    go_ret
    exact⟨Qka (by rw[hF.out,hH.out,c1,decide_eq_false (p:=((s[0].toNat:Int)=95)) (by simpa using c2)];simp),rfl⟩
  ·go_enter Tryz.func106,Tryz.ntmps106
   go_wp2_with fail
   go_ret
   exact⟨Qka (by rw[hF.out,decide_eq_false (by omega)];rfl),rfl⟩
 ·go_enter Tryz.func106,Tryz.ntmps106
  go_wp2_with fail
  go_ret
  exact⟨Qka (by rw[hF.out,decide_eq_false (by omega)];rfl),rfl⟩
end Go.Proofs.YtofhcgbihonckaaGreat
