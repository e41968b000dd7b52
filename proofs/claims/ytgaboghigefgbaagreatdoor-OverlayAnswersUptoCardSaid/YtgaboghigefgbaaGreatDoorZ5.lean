/- Lemmas on the way to the law; no conditions. -/
import Derived.Test.YtgaboghigefgbaaGreatDoorZ1
import Derived.Test.YtgaboghigefgbaaGreatDoorZ2
import Derived.Test.YtgaboghigefgbaaGreatDoorShelf
import Derived.WalkLawsBesides
import Derived.Deep.QuietTactic
import Derived.BigQuiet
set_option linter.all false
set_option maxHeartbeats 8000000
namespace Go.Proofs.YtgaboghigefgbaaGreatDoor
open Go.Proofs.Tryz
open Go.Lib (hid)
open Go.RowKit
theorem QMa(c:Int)(w:World) :
 Calls prog 93 #[.int .u8 c] w fun e w'=>e=.returned (.bool (QIa c))∧w=w':=by
 go_enter func93,ntmps93
 go_wp2
 all_goals (go_ret;exact⟨Qka (by unfold QIa;rw[Bool.eq_iff_iff];simp <;> omega),rfl⟩)
theorem Qeb(c:Int)(w:World) :
 Calls prog 180 #[.int .u8 c] w fun e w'=>e=.returned (.bool (QKc c))∧w=w':=by
 go_enter func180,ntmps180
 go_wp2
 all_goals (go_ret;exact⟨Qka (by unfold QKc;rw[Bool.eq_iff_iff];simp <;> omega),rfl⟩)
theorem QEg(c:Int)(w:World) :
 Calls prog 130 #[.int .u8 c] w fun e w'=>e=.returned (.bool (Q7b c))∧w=w':=by
 go_enter func130,ntmps130;go_wp2_with(first | (go_at_call 93;refine(QMa _ _).mono ?_;rintro e w' ⟨rfl,rfl⟩) | (go_at_call 180;refine(Qeb _ _).mono ?_;rintro e w' ⟨rfl,rfl⟩))
 all_goals (go_ret;exact⟨Qka (by unfold Q7b;rw[Bool.eq_iff_iff];simp[*]),rfl⟩)
theorem QCm(c:Int)(w:World) :
 Calls prog 196 #[.int .u8 c] w fun e w'=>e=.returned (.bool (Qhd c))∧w=w':=by
 go_enter func196,ntmps196
 go_wp2
 all_goals (go_ret;exact⟨Qka (by unfold Qhd;rw[Bool.eq_iff_iff];simp <;> omega),rfl⟩)
def Q6j(g:Nat)(p:Int→Bool):Prop:=∀(c:Int) (w:World),0≤c→c≤255→Calls prog g #[.int .u8 c] w fun e w'=>e=.returned (.bool (p c))∧w=w'
theorem Qfi(s:ByteArray)(g:Nat)(p:Int→Bool)(w:World)(hp:Q6j g p)(eg:∀args w,(callFunc g args).run prog w=.ok (.enter g args) w)(hs:s.size≤maxLen) :
 Calls prog 94 #[.string s,.func (.func g) #[] #[]] w fun e w'=>e=.returned (.bool (Q1j p s.data.toList))∧w=w':=by
 unfold maxLen at hs;go_enter func94,ntmps94
 go_wp2
 go_loop [8] (fun i=>∃k:Nat,k≤s.size∧i=.int .i64 k∧Hid (Q1j p s.data.toList=Q1j p (s.data.toList.drop k))) (fun i=>s.size-(intOf i).toNat)
 case atStart=>exact⟨0,Nat.zero_le _,rfl,rfl⟩
 case round=>
  obtain⟨k,hk,rfl,hB⟩:=hrel;by_cases Hh:k<s.size
  ·have hd:=Qdb s k Hh;have hD:=hid hd;clear hd;by_cases mC:p s[k].toNat=true
   ·go_wp2_with fail;refine(hp _ _ (by omega) (QRc _)).mono ?_;rintro e w' ⟨rfl,rfl⟩;go_wp2_with fail
    go_round
    case rel=>exact⟨k+1,by omega,by go_num,by rw[hB.o,hD.o,Que,mC,Bool.true_and];rfl⟩
    case measure=>simp[intOf];omega
   have mC:p s[k].toNat=false:=by simpa using mC
   go_wp2_with fail;refine(hp _ _ (by omega) (QRc _)).mono ?_;rintro e w' ⟨rfl,rfl⟩;go_wp2_with fail;go_ret;exact⟨Qka (by rw[hB.o,hD.o,Que,mC,Bool.false_and]),rfl⟩
  go_wp2
  go_ret;exact⟨Qka (by rw[hB.o,QFc s k (by omega)];rfl),rfl⟩
theorem Qgi(s:ByteArray)(a:Nat)(g:Nat)(p:Int→Bool)(w:World)(hp:Q6j g p)(eg:∀args w,(callFunc g args).run prog w=.ok (.enter g args) w)(hs:s.size≤maxLen)(ha:a≤s.size) :
 Calls prog 192 #[.string s,.int .i64 a,.func (.func g) #[] #[]] w fun e w'=>e=.returned (.int .i64 (Qwc p (s.data.toList.drop a)))∧w=w':=by
 unfold maxLen at hs;go_enter func192,ntmps192
 go_wp2
 go_loop [7] (fun i=>∃k:Nat,a≤k∧k≤s.size∧i=.int .i64 k∧Hid (Qwc p (s.data.toList.drop a)+a=Qwc p (s.data.toList.drop k)+k)) (fun i=>s.size-(intOf i).toNat)
 case atStart=>exact⟨a,Nat.le_refl _,ha,rfl,rfl⟩
 case round=>
  obtain⟨k,hak,hk,rfl,hB⟩:=hrel;by_cases Hh:k<s.size
  ·have hD:=hid (Qdb s k Hh);by_cases mC:p s[k].toNat=true
   ·go_wp2_with fail;refine(hp _ _ (by omega) (QRc _)).mono ?_;rintro e w' ⟨rfl,rfl⟩;go_wp2_with fail
    go_round
    case rel=>exact⟨k+1,by omega,by omega,by go_num,by have:=hB.o;rw[hD.o,Qfg,if_pos mC]at this;show _=_;omega⟩
    case measure=>simp[intOf];omega
   have mC:p s[k].toNat=false:=by simpa using mC
   have hF:Hid (Qwc p (s.data.toList.drop a)+a=k):=by have:=hB.o;rw[hD.o,Qfg,if_neg (by simp[mC])]at this;show _=_;omega
   go_wp2_with fail;refine(hp _ _ (by omega) (QRc _)).mono ?_;rintro e w' ⟨rfl,rfl⟩;go_wp2_with fail;go_ret;exact⟨QXa (by have:=hF.o;omega),rfl⟩
  have hF:Hid (Qwc p (s.data.toList.drop a)+a=k):=by have:=hB.o;rw[QFc s k (by omega)]at this;simp[Qwc]at this;show _=_;unfold Qwc;omega
  go_wp2_with fail;go_ret;exact⟨QXa (by have:=hF.o;omega),rfl⟩
def Qjc(s:ByteArray)(i:Nat)(file line col:Int):Array Value:=#[.string s,.int .i64 i,.int .i64 file,.int .i64 line,.int .i64 col]
theorem QUe{w:World}{b:Nat}{s:ByteArray}{i:Nat}{file line col:Int}{t:TypeId}(h:Holds w b (Qjc s i file line col) t) :
 w.cell? ⟨b,0,none⟩=some (.string s)∧w.cell? ⟨b,1,none⟩=some (.int .i64 i)∧w.cell? ⟨b,2,none⟩=some (.int .i64 file)∧w.cell? ⟨b,3,none⟩=some (.int .i64 line)∧w.cell? ⟨b,4,none⟩=some (.int .i64 col)∧
 w.frozen? ⟨b,0,none⟩=false∧w.frozen? ⟨b,1,none⟩=false∧w.frozen? ⟨b,2,none⟩=false∧w.frozen? ⟨b,3,none⟩=false∧w.frozen? ⟨b,4,none⟩=false:=
 ⟨h.cell 0,h.cell 1,h.cell 2,h.cell 3,h.cell 4,h.free 0,h.free 1,h.free 2,h.free 3,h.free 4⟩
theorem Q9i(s:ByteArray)(i:Nat)(file line col:Int)(b:Nat)(w:World)(h:Holds w b (Qjc s i file line col) 183)(hi:i≤s.size)(_hs:s.size≤maxLen) :
 Calls prog 158 #[.pointer (some ⟨b,0,none⟩)] w fun e w'=>e=.returned (.string (s.extract i s.size))∧∃n,w'=w.drewN n:=by
 have hs:=_hs;unfold maxLen at hs;obtain⟨c0,c1,c2,c3,c4,f0,f1,f2,f3,f4⟩:=QUe h;go_enter func158,ntmps158
 go_wp2
 go_quiet(fail)
 go_wp2
 go_ret;exact⟨rfl,_,rfl⟩
theorem Qpr(s:ByteArray)(i j:Nat)(h:i≤j)(hj:j<s.size)(p:Int × Int) :
 adv ((s.data.toList.drop i).take (j+1-i)) p=if s[j].toNat=10 then((adv ((s.data.toList.drop i).take (j-i)) p).1+1,1)else((adv ((s.data.toList.drop i).take (j-i)) p).1,(adv ((s.data.toList.drop i).take (j-i)) p).2+1):=by
 have e:(s.data.toList.drop i).take (j+1-i)=(s.data.toList.drop i).take (j-i)++[s[j]]:=by
  rw[show j+1-i=(j-i)+1 from by omega,List.take_succ_eq_append_getElem (by simp;omega)]
  congr 2
  rw[List.getElem_drop];simp only[show i+(j-i)=j from by omega];rfl
 rw[e,Qor]
theorem Qdj(s:ByteArray)(i n:Nat)(file line col:Int)(b:Nat)(w:World)(h:Holds w b (Qjc s i file line col) 183)(hi:i+n≤s.size)(hs:s.size≤140737488355328)
 (hl:1≤line) (hl':line≤i+1) (hc:1≤col) (hc':col≤i+1) :
 Calls prog 160 #[.pointer (some ⟨b,0,none⟩),.int .i64 n] w fun e w'=>e=.returned (.tuple #[])∧
  Holds w' b (Qjc s (i+n) file (adv ((s.data.toList.drop i).take n) (line,col)).1 (adv ((s.data.toList.drop i).take n) (line,col)).2) 183∧Qaa (· = b) w w':=by
 go_enter func160,ntmps160
 go_wp2
 go_loopw [1] (fun n' wr=>∃j m:Nat,∃l c:Int,i≤j∧j+m=i+n∧n'=.int .i64 m∧1≤l∧l≤j+1∧1≤c∧c≤j+1∧Hid ((l,c)=adv ((s.data.toList.drop i).take (j-i)) (line,col))∧Holds wr b (Qjc s j file l c) 183∧Qaa (· = b) w wr) (fun n' _=>(intOf n').toNat)
 case atStart=>exact⟨i,n,line,col,Nat.le_refl _,rfl,rfl,hl,hl',hc,hc',by simp[Hid,adv],h,Qaa.refl _ _⟩
 case round=>
  obtain⟨j,m,l,c,kV,uI,rfl,GO,gS,gy,gh,hA,hH,hK⟩:=hrel;obtain⟨c0,c1,c2,c3,c4,f0,f1,f2,f3,f4⟩:=QUe hH;by_cases hm:0<m
  ·have uJ:j<s.size:=by omega
   have hS:=hid (Qpr s i j kV uJ (line,col));have rm:m≤140737488355328:=by omega
   have o7:=hid uI;clear uI;have hA':=hA.o;by_cases gR:s[j].toNat=10
   ·have J4:((s[j].toNat:Int)==10)=true:=by simp[gR]
    have hN:Hid (((l+1:Int),(1:Int))=adv ((s.data.toList.drop i).take (j+1-i)) (line,col)):=by show _=_;rw[hS.o,if_pos gR,←hA']
    clear gR hS hA'
    go_wp2
    go_quiet(fail)
    go_wp2
    go_roundw
    case rel=>
     exact⟨j+1,m-1,l+1,1,by omega,by have:=o7.o;omega,by rw[show((m:Int)-1)=((m-1:Nat):Int)from by omega],by omega,by omega,by omega,by omega,hN,
      (((((hH.set 4 _).drewN nq).set 3 _).set 4 _).set 1 _),((((hK.setCell (.inr rfl) _).drewN nq).setCell (.inr rfl) _).setCell (.inr rfl) _).setCell (.inr rfl) _⟩
    case measure=>simp[intOf];omega
   have J4:((s[j].toNat:Int)==10)=false:=by simp;omega
   have hN:Hid ((l,c+1)=adv ((s.data.toList.drop i).take (j+1-i)) (line,col)):=by show _=_;rw[hS.o,if_neg gR,←hA']
   clear gR hS hA'
   go_wp2
   go_quiet(fail)
   go_wp2
   go_roundw
   case rel=>
    exact⟨j+1,m-1,l,c+1,by omega,by have:=o7.o;omega,by rw[show((m:Int)-1)=((m-1:Nat):Int)from by omega],by omega,by omega,by omega,by omega,hN,
     (((hH.set 4 _).drewN nq).set 1 _),((hK.setCell (.inr rfl) _).drewN nq).setCell (.inr rfl) _⟩
   case measure=>simp[intOf];omega
  have:m=0:=by omega
  subst this
  go_wp2
  go_end0
  obtain rfl:j=i+n:=by omega
  refine⟨rfl,?_,hK⟩;have:=hA.o;rw[show i+n-i=n from by omega]at this;rw[←this];exact hH
theorem QCg:Q6j 95 QYb:=by
 intro c w h0 h1;have hm:=hid (QWl [44,46,43,45,63,35,64] c h0 h1);go_enter func95,ntmps95;by_cases hw:Q7b c=true
 ·go_wp2_with(first | (go_at_call 130;refine(QEg _ _).mono ?_;rintro e w' ⟨rfl,rfl⟩) | (go_at_call 131;refine(Tryz.strings_IndexByte _ _ _).mono ?_;rintro e w' ⟨rfl,rfl⟩));go_ret;exact⟨Qka (by unfold QYb;rw[hw];rfl),rfl⟩
 have hw:Q7b c=false:=by simpa using hw
 go_wp2_with(first | (go_at_call 130;refine(QEg _ _).mono ?_;rintro e w' ⟨rfl,rfl⟩) | (go_at_call 131;refine(Tryz.strings_IndexByte _ _ _).mono ?_;rintro e w' ⟨rfl,rfl⟩));go_ret;exact⟨Qka (by unfold QYb Qrq;rw[hw,Bool.false_or,←hm.o]),rfl⟩
theorem Qzf:∀args w,(callFunc 95 args).run prog w=.ok (.enter 95 args) w:=enters_of func95 (by kernel_rfl) rfl
theorem Qac(s:ByteArray)(w:World)(hs:s.size≤maxLen) :
 Calls prog 50 #[.string s] w fun e w'=>e=.returned (.bool (QTa s.data.toList))∧w=w':=by
 have hs':=hs;unfold maxLen at hs';have hF:=hid (show QTa s.data.toList=(decide (1≤s.size∧s.size≤31)&&(QIa (s.data.toList.headD 0).toNat||decide (((s.data.toList.headD 0).toNat:Int)=95))&&Q1j QYb s.data.toList)from by unfold QTa;simp);by_cases h1:1≤s.size
 ·by_cases h2:s.size≤31
  ·have hH:=hid (QId s h1);by_cases hl:QIa s[0].toNat=true
   ·go_enter func50,ntmps50;go_wp2_with(first | (go_at_call 93;refine(QMa _ _).mono ?_;rintro e w' ⟨rfl,rfl⟩) | (go_at_call 94;refine(Qfi _ 95 QYb _ QCg Qzf hs).mono ?_;rintro e w' ⟨rfl,rfl⟩));go_ret;exact⟨Qka (by rw[hF.o,hH.o,hl,decide_eq_true ⟨h1,h2⟩];rfl),rfl⟩
   have hl:QIa s[0].toNat=false:=by simpa using hl
   by_cases h95:(s[0].toNat:Int)=95
   ·have tt:((s[0].toNat:Int)==95)=true:=by simpa using h95
    have rG:=hid h95;clear h95;go_enter func50,ntmps50;go_wp2_with(first | (go_at_call 93;refine(QMa _ _).mono ?_;rintro e w' ⟨rfl,rfl⟩) | (go_at_call 94;refine(Qfi _ 95 QYb _ QCg Qzf hs).mono ?_;rintro e w' ⟨rfl,rfl⟩));go_ret;exact⟨Qka (by rw[hF.o,hH.o,hl,decide_eq_true ⟨h1,h2⟩,decide_eq_true rG.o];rfl),rfl⟩
   have tt:((s[0].toNat:Int)==95)=false:=by simpa using h95
   have rG:=hid h95;clear h95;go_enter func50,ntmps50;go_wp2_with(first | (go_at_call 93;refine(QMa _ _).mono ?_;rintro e w' ⟨rfl,rfl⟩));go_ret;exact⟨Qka (by rw[hF.o,hH.o,hl,decide_eq_true ⟨h1,h2⟩,decide_eq_false rG.o];rfl),rfl⟩
  go_enter func50,ntmps50;go_wp2_with fail;go_ret;exact⟨Qka (by rw[hF.o,decide_eq_false (by omega)];rfl),rfl⟩
 go_enter func50,ntmps50;go_wp2_with fail;go_ret;exact⟨Qka (by rw[hF.o,decide_eq_false (by omega)];rfl),rfl⟩
theorem Qyg(c:Int)(w:World) :
 Calls prog 99 #[.int .u8 c] w fun e w'=>e=.returned (.bool (QIa c))∧w=w':=by
 go_enter func99,ntmps99
 go_wp2
 all_goals (go_ret;exact⟨Qka (by unfold QIa;rw[Bool.eq_iff_iff];simp <;> omega),rfl⟩)
theorem Qhs(c:Int)(w:World) :
 Calls prog 137 #[.int .u8 c] w fun e w'=>e=.returned (.bool (Q7b c))∧w=w':=by
 go_enter func137,ntmps137;go_wp2_with(first | (go_at_call 99;refine(Qyg _ _).mono ?_;rintro e w' ⟨rfl,rfl⟩))
 all_goals (go_ret;exact⟨Qka (by unfold Q7b QKc;rw[Bool.eq_iff_iff];simp[*] <;> omega),rfl⟩)
theorem QCe(x:UInt8)(l:List UInt8)(c:Int):Qef (x::l) c=(decide ((x.toNat:Int)=c)||Qef l c):=by simp[Qef]
theorem QDq(c:Int)(s:ByteArray)(w:World)(hs:s.size≤maxLen) :
 Calls prog 138 #[.int .u8 c,.string s] w fun e w'=>e=.returned (.bool (Qef s.data.toList c))∧w=w':=by
 unfold maxLen at hs;go_enter func138,ntmps138
 go_wp2
 go_loop [5] (fun i=>∃k:Nat,k≤s.size∧i=.int .i64 k∧Hid (Qef s.data.toList c=Qef (s.data.toList.drop k) c)) (fun i=>s.size-(intOf i).toNat)
 case atStart=>exact⟨0,Nat.zero_le _,rfl,rfl⟩
 case round=>
  obtain⟨k,hk,rfl,hB⟩:=hrel;by_cases Hh:k<s.size
  ·have hD:=hid (Qdb s k Hh);by_cases hc:(s[k].toNat:Int)=c
   ·have hc':((s[k].toNat:Int)==c)=true:=by simpa using hc
    have HC:=hid hc;clear hc;go_wp2_with fail;go_ret;exact⟨Qka (by rw[hB.o,hD.o,QCe,decide_eq_true HC.o];rfl),rfl⟩
   have hc':((s[k].toNat:Int)==c)=false:=by simpa using hc
   have HC:=hid hc;clear hc;go_wp2_with fail
   go_round
   case rel=>exact⟨k+1,by omega,by go_num,by show _=_;rw[hB.o,hD.o,QCe,decide_eq_false HC.o,Bool.false_or]⟩
   case measure=>simp[intOf];omega
  go_wp2
  go_ret;exact⟨Qka (by rw[hB.o,QFc s k (by omega)];rfl),rfl⟩
theorem Qin(c:Int)(w:World) :
 Calls prog 100 #[.int .u8 c] w fun e w'=>e=.returned (.bool (QYb c))∧w=w':=by
 go_enter func100,ntmps100;cases hw:Q7b c
 all_goals
  go_wp2_with(first | (go_at_call 137;refine(Qhs _ _).mono ?_;rintro e w' ⟨rfl,rfl⟩) | (go_at_call 138;refine(QDq _ _ _ (by decide)).mono ?_;rintro e w' ⟨rfl,rfl⟩))
  go_ret;exact⟨Qka (by unfold QYb Qrq;rw[hw];rfl),rfl⟩
theorem Qxd(s:ByteArray)(w:World)(hs:s.size≤maxLen) :
 Calls prog 54 #[.string s] w fun e w'=>e=.returned (.bool (QTa s.data.toList))∧w=w':=by
 have hs':=hs;unfold maxLen at hs';have hF:=hid (show QTa s.data.toList=(decide (1≤s.size∧s.size≤31)&&(QIa (s.data.toList.headD 0).toNat||decide (((s.data.toList.headD 0).toNat:Int)=95))&&Q1j QYb s.data.toList)from by unfold QTa;simp);by_cases h1:1≤s.size
 ·by_cases h2:s.size≤31
  ·have hH:=hid (QId s h1);have Hw:(QIa s[0].toNat=true∨QIa s[0].toNat=false∧((s[0].toNat:Int) != 95)=false)∨QIa s[0].toNat=false∧((s[0].toNat:Int) != 95)=true:=by
    cases QIa s[0].toNat with
    | true=>exact .inl (.inl rfl)
    | false=>
     cases h:((s[0].toNat:Int) != 95)
     ·exact .inl (.inr ⟨rfl,rfl⟩)
     exact .inr ⟨rfl,rfl⟩
   rcases Hw with Hw|⟨c1,c2⟩
   ·have KU:=hid (show QTa s.data.toList=Q1j QYb s.data.toList from by
     rw[hF.o,hH.o,decide_eq_true ⟨h1,h2⟩];rcases Hw with h|⟨h,h'⟩
     ·rw[h];rfl
     rw[h,decide_eq_true (by simpa using h')];rfl)
    rcases Hw with c1|⟨c1,c2⟩
    all_goals
     go_enter func54,ntmps54;go_wp2_with(first | (go_at_call 99;refine(Qyg _ _).mono ?_;rintro e w' ⟨rfl,rfl⟩))
     go_loop [3] (fun i=>∃k:Nat,k≤s.size∧i=.int .i64 k∧Hid (Q1j QYb s.data.toList=Q1j QYb (s.data.toList.drop k))) (fun i=>s.size-(intOf i).toNat)
     case atStart=>exact⟨0,Nat.zero_le _,rfl,rfl⟩
     case round=>
      obtain⟨k,hk,rfl,hB⟩:=hrel;by_cases Hh:k<s.size
      ·have hD:=hid (Qdb s k Hh);cases mC:QYb s[k].toNat
       ·go_wp2_with(first | (go_at_call 100;refine(Qin _ _).mono ?_;rintro e w' ⟨rfl,rfl⟩));go_ret;exact⟨Qka (by rw[KU.o,hB.o,hD.o,Que,mC,Bool.false_and]),rfl⟩
       go_wp2_with(first | (go_at_call 100;refine(Qin _ _).mono ?_;rintro e w' ⟨rfl,rfl⟩))
       go_round
       case rel=>exact⟨k+1,by omega,by go_num,by show _=_;rw[hB.o,hD.o,Que,mC,Bool.true_and]⟩
       case measure=>simp[intOf];omega
      go_wp2
      go_ret;exact⟨Qka (by rw[KU.o,hB.o,QFc s k (by omega)];rfl),rfl⟩
   go_enter func54,ntmps54;go_wp2_with(first | (go_at_call 99;refine(Qyg _ _).mono ?_;rintro e w' ⟨rfl,rfl⟩));go_ret;exact⟨Qka (by rw[hF.o,hH.o,c1,decide_eq_false (p:=((s[0].toNat:Int)=95)) (by simpa using c2)];simp),rfl⟩
  go_enter func54,ntmps54;go_wp2_with fail;go_ret;exact⟨Qka (by rw[hF.o,decide_eq_false (by omega)];rfl),rfl⟩
 go_enter func54,ntmps54;go_wp2_with fail;go_ret;exact⟨Qka (by rw[hF.o,decide_eq_false (by omega)];rfl),rfl⟩
end Go.Proofs.YtgaboghigefgbaaGreatDoor
