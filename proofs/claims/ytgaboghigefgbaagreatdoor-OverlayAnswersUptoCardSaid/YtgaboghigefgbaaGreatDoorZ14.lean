/- Lemmas on the way to the law; no conditions. -/
import Derived.Test.YtgaboghigefgbaaGreatDoorZ3
import Derived.Test.YtgaboghigefgbaaGreatDoorZ5
import Derived.Deep.LoopGhost
import Derived.IntWalk
import Derived.Laws.MakeOwn
import Derived.OwnWalk
import Derived.Test.YtgaboghigefgbaaGreatDoorZ33
set_option linter.all false
set_option maxHeartbeats 8000000
namespace Go.Proofs.YtgaboghigefgbaaGreatDoor
open Go.Proofs.Tryz
open Go.Lib (hid)
open Go.RowKit
theorem Qpk(s:ByteArray)(a:Nat):(s.extract a s.size).data.toList=s.data.toList.drop a:=by
 simp[ByteArray.data_extract,Array.toList_extract,List.extract_eq_take_drop]
 try exact List.take_of_length_le (by simp)
theorem Q7m(l:List UInt8)(b:UInt8):decide (0≤Lib.indexByte l b)=Qef l b.toNat:=QWf l b
theorem QNe(a b:ByteArray)(h:a.size+b.size≤9223372036854775807):∃c:ByteArray,(∀wx,(Op.stringOp .add a b).run prog wx=.ok (.string c) wx)∧c.size=a.size+b.size∧c.data.toList=a.data.toList++b.data.toList:=by
 refine⟨a++b,fun wx=>?_,by simp,by simp⟩;simp only[Op.stringOp];rw[if_neg (by simp[IntKind.max,IntKind.signed,IntKind.bits];omega)]
 rfl
theorem Qyc(s:ByteArray)(w:World)(hs:s.size≤9223372036854775807) :
 Calls prog 97 #[.string s] w fun e w'=>e=.returned (.bool (Q6a s))∧w=w':=by
 have hH:=fun wx=>Tryz.strings_HasPrefix s ⟨#[35]⟩ wx;have hF:=hid (show Q6a s=QXe s.data.toList from rfl);by_cases h:Lib.hasPrefix s.data.toList [35]=true
 ·have gz:=Lib.hasPrefix_le h;simp only[List.length_cons,List.length_nil]at gz;have Gn:1≤s.size:=by simpa using gz
  have Gl:Lib.hasPrefix s.data.toList (⟨#[35]⟩:ByteArray).data.toList=true:=h;rw[Gl]at hH;have HH:=hid hH;clear hH Gl;have hx:(s.extract 1 s.size).size=s.size-1:=by simp
  obtain⟨c,Gk,Hw,c9⟩:=QNe ⟨#[95]⟩ (s.extract 1 s.size) (by rw[show(⟨#[95]⟩:ByteArray).size=1 from rfl];omega);rw[show(⟨#[95]⟩:ByteArray).size=1 from rfl]at Hw;have gG:c.data.toList=95::s.data.toList.drop 1:=by rw[c9,Qpk];rfl
  have hN:=fun wx=>Qac c wx (by unfold maxLen;omega);have hC:=fun wx=>Tryz.strings_Contains_one c 64 wx;rw[Q7m,gG]at hC;rw[gG]at hN;have HF:Hid (Q6a s=(QTa (95::s.data.toList.drop 1) && !Qef (95::s.data.toList.drop 1) 64)):=by show _=_;rw[hF.o];unfold QXe;rw[if_pos h]
  have HN:=hid hN;clear hN;have HC:=hid hC;clear hC;clear h hF c9 gG gz;cases hy:QTa (95::s.data.toList.drop 1)with
  | true=>
   rw[hy]at HN HF;clear hy;go_enter func97,ntmps97;go_wp2_with fail;refine(HH.o _).mono ?_;rintro e w' ⟨rfl,rfl⟩;go_wp2_with fail;refine(HN.o _).mono ?_;rintro e w' ⟨rfl,rfl⟩;go_wp2_with fail;refine(HC.o _).mono ?_;rintro e w' ⟨rfl,rfl⟩;go_wp2_with fail;go_ret;exact⟨Qka (by rw[HF.o];simp),rfl⟩
  | false=>
   rw[hy]at HN HF;clear hy;go_enter func97,ntmps97;go_wp2_with fail;refine(HH.o _).mono ?_;rintro e w' ⟨rfl,rfl⟩;go_wp2_with fail;refine(HN.o _).mono ?_;rintro e w' ⟨rfl,rfl⟩;go_wp2_with fail;go_ret;exact⟨Qka (by rw[HF.o];simp),rfl⟩
 have h:Lib.hasPrefix s.data.toList [35]=false:=by simpa using h
 have Gl:Lib.hasPrefix s.data.toList (⟨#[35]⟩:ByteArray).data.toList=false:=h;rw[Gl]at hH;have HH:=hid hH;clear hH Gl;have hN:=fun wx=>Qac s wx (by unfold maxLen;omega);have hC:=fun wx=>Tryz.strings_Contains_one s 64 wx;rw[Q7m]at hC;have HF:Hid (Q6a s=(QTa s.data.toList && !Qef s.data.toList 64)):=by show _=_;rw[hF.o];unfold QXe;rw[if_neg (by simp[h])]
 have HN:=hid hN;clear hN;have HC:=hid hC;clear hC;clear h hF;cases hy:QTa s.data.toList with
 | true=>
  rw[hy]at HN HF;clear hy;go_enter func97,ntmps97;go_wp2_with fail;refine(HH.o _).mono ?_;rintro e w' ⟨rfl,rfl⟩;go_wp2_with fail;refine(HN.o _).mono ?_;rintro e w' ⟨rfl,rfl⟩;go_wp2_with fail;refine(HC.o _).mono ?_;rintro e w' ⟨rfl,rfl⟩;go_wp2_with fail;go_ret;exact⟨Qka (by rw[HF.o];simp),rfl⟩
 | false=>
  rw[hy]at HN HF;clear hy;go_enter func97,ntmps97;go_wp2_with fail;refine(HH.o _).mono ?_;rintro e w' ⟨rfl,rfl⟩;go_wp2_with fail;refine(HN.o _).mono ?_;rintro e w' ⟨rfl,rfl⟩;go_wp2_with fail;go_ret;exact⟨Qka (by rw[HF.o];simp),rfl⟩
theorem Qej(R:Nat→Prop)(v:Value)(T:List Qba)(u:Int)(w:World)(hT:Qoa R w v T)(hn:Q3a T=true)(hu:u<T.length)(qh:-1≤u)(hl:T.length≤1000) :
 Calls prog 74 #[.agg #[v],.int .i64 u] w fun e w'=>e=.returned (.int .i64 (Q8b T T.length u))∧Below w.heap.size w w':=by
 obtain⟨a,cap,rfl,gy,gh⟩:=hT.shape;have HT:=hid hT;clear hT;have HN:=hid hn;clear hn;go_enter func74,ntmps74;go_wp2_with fail
 go_loopg [1,5] (u.toNat) (fun f x y wr=>∃(x':Int) (y':Nat),x=.int .i64 x'∧y=.int .i64 y'∧x'.toNat≤f∧-1≤x'∧x'<T.length∧y'+x'.toNat≤u.toNat∧Hid (Q8b T T.length u=y'+Q8b T T.length x')∧
  ∃n,wr=(w.alloc (.cells #[.slice a T.length cap] 27)).drewN n)
 case atStart=>exact⟨u,0,rfl,rfl,by omega,qh,hu,by omega,by show _=_;omega,0,rfl⟩
 case round=>
  obtain⟨x,y,rfl,rfl,hf,JM,MV,hy,hD,n,rfl⟩:=hrel;by_cases h0:0<x
  ·obtain⟨k,rfl⟩:=Int.eq_ofNat_of_zero_le (show 0≤x by omega);have hk:k<T.length:=by omega
   obtain⟨g,o,pa,pc,rfl,hg,c0,c1,c2,hp,p1,p2,b0,b1,b2⟩:=HT.o.at k hk;have Gv:=(Quc HN.o k hk).2 (by omega);have tD:Hid (Q8b T T.length u=(y+1:Nat)+Q8b T T.length T[k].parent):=by
    show _=_;rw[hD.o];have e1:Q8b T T.length (k:Int)=Q8b T (T.length-1) (QWa T k)+1:=by
     obtain⟨m,hm⟩:∃m,T.length=m+1:=⟨T.length-1,by omega⟩;rw[hm];simp only[Q8b];rw[if_pos h0];rfl
    rw[e1,Qxa hk,Qok HN.o T.length T[k].parent (by omega) (by omega) (T.length-1) T.length (by omega) (by omega)];omega
   clear hp hD;go_wp2_with fail;go_roundg (gk-1)
   case measure=>omega
   case rel=>exact⟨T[k].parent,y+1,rfl,by go_num,by omega,by omega,by omega,by omega,tD,n,rfl⟩
  go_wp2_with fail;go_ret;refine⟨QXa ?_,QJa (Bq) n⟩;have e1:Q8b T T.length x=0:=by cases Jg:T.length with
   | zero=>rfl
   | succ m=>simp[Q8b,h0]
  rw[hD.o,e1];simp
def QHl(p:Qqa):Bool:=decide (256<p.value.size)
theorem Qss(p:Qqa)(w:World)(hs:p.value.size≤9223372036854775807) :
 Calls prog 71 #[.agg #[.string p.name,.string p.value]] w fun e w'=>e=.returned (.bool (QHl p))∧Below w.heap.size w w':=by
 go_enter func71,ntmps71;go_wp2_with fail;go_ret;exact⟨Qka (by unfold QHl;rw[Bool.eq_iff_iff];simp <;> omega),Bq⟩
theorem QJn:∀args w,(callFunc 71 args).run prog w=.ok (.enter 71 args) w:=enters_of func71 (by kernel_rfl) rfl
def Qhr(p:Qqa→Bool)(ps:List Qqa)(w:World)(e:Ending)(w':World):Prop:=∃r:Int,e=.returned (.int .i64 r)∧decide (0≤r)=ps.any p∧Below w.heap.size w w'
theorem Q4h(R:Nat→Prop)(v:Value)(ps:List Qqa)(w:World)(hP:QAa R w v ps) :
 Calls prog 105 #[v,.func (.func 71) #[] #[]] w (Qhr QHl ps w):=by
 obtain⟨a,cap,rfl,gy,gh⟩:=hP.shape;have HP:=hid hP;clear hP;have eg:=QJn;go_enter func105,ntmps105;go_wp2_with fail;go_loopg [8] (ps.length) (fun f x wr=>∃k:Nat,x=.int .i64 k∧k≤ps.length∧ps.length≤k+f∧Hid ((ps.take k).any QHl=false)∧Below w.heap.size w wr)
 case atStart=>exact⟨0,rfl,by omega,by omega,by simp[Hid],Below.refl _ _⟩
 case round=>
  obtain⟨k,rfl,hk,hf,hN,hb⟩:=hrel;by_cases Hh:k<ps.length
  ·obtain⟨g,o,rfl,hg,c0,c1,b0,b1⟩:=(HP.o.new hb).at k Hh;have Gr:=fun wx=>Qss ps[k] wx b1;have vE:=hid (show(ps.take (k+1)).any QHl=(QHl ps[k]||false)from by rw[List.take_succ_eq_append_getElem Hh,List.any_append,hN.o];simp);have Gc:=hid (show QHl ps[k]=true→ps.any QHl=true from fun h=>List.any_eq_true.2 ⟨_,List.getElem_mem Hh,h⟩);have Hy:=hb.size;generalize QHl ps[k]=y at Gr vE Gc;have HB:=hid Gr;clear Gr;cases y with
   | true=>
    have HA:=hid (Gc.o rfl);clear Gc vE;go_wp2_with fail;refine(HB.o _).mono ?_;rintro e w' ⟨rfl,hb'⟩;go_wp2_with fail;go_ret;exact⟨k,rfl,by rw[HA.o];simp,hb.trans (hb'.mono Hy)⟩
   | false=>
    clear Gc;go_wp2_with fail;refine(HB.o _).mono ?_;rintro e w' ⟨rfl,hb'⟩;go_wp2_with fail;go_roundg (gk-1)
    case measure=>omega
    case rel=>exact⟨k+1,by go_num,by omega,by omega,vE.o,hb.trans (hb'.mono Hy)⟩
  go_wp2_with fail;go_ret;refine⟨-1,rfl,?_,hb⟩;have:=hN.o;rw[List.take_of_length_le (by omega)]at this;rw[this];rfl
theorem Qwd(R:Nat→Prop)(v:Value)(ps:List Qqa)(w:World)(hP:QAa R w v ps) :
 Calls prog 70 #[v,.func (.func 71) #[] #[]] w fun e w'=>e=.returned (.bool (ps.any QHl))∧Below w.heap.size w w':=by
 obtain⟨a,cap,rfl,gy,gh⟩:=hP.shape;go_enter func70,ntmps70;go_wp2_with fail;refine(Q4h R _ ps _ hP).mono ?_;rintro e w' ⟨r,rfl,hr,hb⟩;have HR:=hid hr;clear hr;go_wp2_with fail;go_ret;exact⟨Qka (by rw[←HR.o]),hb⟩
theorem QRi(i:Nat)(n:Qba) :
 (((i:Int)==0)=true∧decide (0<i)=false∧(n.parent != -1)=false∧n.name.toList=[]∧QHd i n=true)∨
 (((i:Int)==0)=true∧decide (0<i)=false∧(n.parent != -1)=true∧QHd i n=false)∨
 (((i:Int)==0)=true∧decide (0<i)=false∧(n.parent != -1)=false∧¬n.name.toList=[]∧n.name.toList.isEmpty=false∧QHd i n=false)∨
 (((i:Int)==0)=false∧decide (0<i)=true∧n.parent<0∧QHd i n=false)∨
 (((i:Int)==0)=false∧decide (0<i)=true∧0≤n.parent∧(i:Int)≤n.parent∧QHd i n=false)∨
 (((i:Int)==0)=false∧decide (0<i)=true∧0≤n.parent∧n.parent<i∧QTa n.name.data.toList=true∧QHd i n=true)∨
 (((i:Int)==0)=false∧decide (0<i)=true∧0≤n.parent∧n.parent<i∧QTa n.name.data.toList=false∧QHd i n=false):=by
 have Aj:eqS n.name ByteArray.empty=decide (n.name.toList=[]):=by
  unfold eqS;rw[show ByteArray.empty.toList=[]from by rw[ByteArray.toList_eq];rfl,Bool.eq_iff_iff];simp
 unfold QHd;by_cases h0:i=0
 ·subst h0;simp only[if_true,Aj];by_cases h1:n.parent = -1
  ·by_cases h2:n.name.toList=[]
   ·left;simp[h1,h2]
   right;right;left;simp[h1,h2]
  right;left;simp[h1]
 have e1:((i:Int)==0)=false:=by simp;omega
 have e2:decide (0<i)=true:=by simp;omega
 simp only[if_neg h0,e1,e2];by_cases h1:n.parent<0
 ·right;right;right;left;simp[h1];omega
 by_cases h2:(i:Int)≤n.parent
 ·right;right;right;right;left;simp;omega
 cases h3:QTa n.name.data.toList
 ·right;right;right;right;right;right;simp;omega
 right;right;right;right;right;left;simp;omega
theorem Qfj(R:Nat→Prop)(v:Value)(T:List Qba)(w:World)(hT:Qoa R w v T) :
 Calls prog 72 #[.agg #[v]] w fun e w'=>e=.returned (.bool (Q3a T))∧Below w.heap.size w w':=by
 obtain⟨a,cap,rfl,gy,gh⟩:=hT.shape;have HT:=hid hT;clear hT;go_enter func72,ntmps72;go_wp2_with fail;go_loopg [10] (T.length) (fun f x wr=>∃k:Nat,x=.int .i64 k∧k≤T.length∧T.length≤k+f∧Hid (Q3a T=Qsd k (T.drop k))∧Below w.heap.size w wr)
 case atStart=>exact⟨0,rfl,by omega,by omega,by simp[Hid,Q3a],Bq⟩
 case round=>
  obtain⟨go,rfl⟩:∃x:Nat,x=gk:=⟨_,rfl⟩;obtain⟨k,rfl,hk,hf,hN,hb⟩:=hrel;have Hy:=hb.size;by_cases Hh:k<T.length
  ·obtain⟨g,o,pa,pc,rfl,hg,c0,c1,c2,hp,p1,p2,b0,b1,b2⟩:=(HT.o.new hb).at k Hh;have M1:=hid hp;clear hp;have Hk:=hid (show Qsd k (T.drop k)=(QHd k T[k]&&(T[k].props.all fun p=>Q6a p.name)&&Qsd (k+1) (T.drop (k+1)))from by rw[List.drop_eq_getElem_cons Hh];rfl);have k9:=QRi k T[k];rcases k9 with k9|k9|k9|k9|k9|k9|k9
   ·obtain⟨GN,Ga,q1,q2,hh⟩:=k9;have Gl:=hid hh;clear hh;go_wp2_with fail;go_loopg [51] (T[k].props.length) (fun f x wx=>∃j:Nat,x=.int .i64 j∧j≤T[k].props.length∧T[k].props.length≤j+f∧Hid (T[k].props.all (fun p=>Q6a p.name)=(T[k].props.drop j).all (fun p=>Q6a p.name))∧Below wr.heap.size wr wx)
    case atStart=>exact⟨0,rfl,by omega,by omega,by simp[Hid],Bq⟩
    case round=>
     obtain⟨j,rfl,hj,jq,hA,Hc⟩:=hrel;have Hg:=hb.trans (Hc.mono Hy);have mI:=Hg.size;by_cases g9:j<T[k].props.length
     ·obtain⟨gp,op,rfl,ly,d0,d1,e0,e1⟩:=(M1.o.new Hc).at j g9;have Kv:=fun wx=>Qyc (T[k].props[j]).name wx e0;have gH:=hid (show(T[k].props.drop j).all (fun p=>Q6a p.name)=(Q6a (T[k].props[j]).name&&(T[k].props.drop (j+1)).all (fun p=>Q6a p.name))from by rw[List.drop_eq_getElem_cons g9];rfl);generalize Q6a (T[k].props[j]).name=y at Kv gH;have HB:=hid Kv;clear Kv;cases y with
      | true=>
       go_wp2_with fail;refine(HB.o _).mono ?_;rintro e w' ⟨rfl,rfl⟩;go_wp2_with fail;go_roundg (gk-1)
       case measure=>omega
       case rel=>exact⟨j+1,by go_num,by omega,by omega,by show _=_;rw[hA.o,gH.o,Bool.true_and],Hc.alloc Hc.size _⟩
      | false=>
       go_wp2_with fail;refine(HB.o _).mono ?_;rintro e w' ⟨rfl,rfl⟩;go_wp2_with fail;go_ret;exact⟨Qka (by rw[hN.o,Hk.o,hA.o,gH.o];simp),Hg.alloc mI _⟩
     go_wp2_with fail;go_roundg (go-1)
     case measure=>omega
     case rel=>exact⟨k+1,by go_num,by omega,by omega,by show _=_;rw[hN.o,Hk.o,hA.o,List.drop_eq_nil_of_le (by omega),Gl.o];simp,Hg⟩
   ·obtain⟨GN,Ga,q1,hh⟩:=k9;have Gl:=hid hh;clear hh;go_wp2_with fail;go_ret;exact⟨Qka (by rw[hN.o,Hk.o,Gl.o];simp),hb.alloc Hy _⟩
   ·obtain⟨GN,Ga,q1,q2,q3,hh⟩:=k9;have Gl:=hid hh;clear hh;go_wp2_with fail;go_ret;exact⟨Qka (by rw[hN.o,Hk.o,Gl.o];simp),hb.alloc Hy _⟩
   ·obtain⟨GN,Ga,q1,hh⟩:=k9;have Gl:=hid hh;clear hh;go_wp2_with fail;go_ret;exact⟨Qka (by rw[hN.o,Hk.o,Gl.o];simp),hb.alloc Hy _⟩
   ·obtain⟨GN,Ga,q1,q2,hh⟩:=k9;have Gl:=hid hh;clear hh;go_wp2_with fail;go_ret;exact⟨Qka (by rw[hN.o,Hk.o,Gl.o];simp),hb.alloc Hy _⟩
   ·obtain⟨GN,Ga,q1,q2,hn,hh⟩:=k9;have Gl:=hid hh;clear hh;have Ht:=fun wx=>Qac T[k].name wx (by unfold maxLen;omega);rw[hn]at Ht;have Kg:=hid Ht;clear Ht hn;go_wp2_with fail;refine(Kg.o _).mono ?_;rintro e w' ⟨rfl,rfl⟩;go_wp2_with fail;go_loopg [51] (T[k].props.length) (fun f x wx=>∃j:Nat,x=.int .i64 j∧j≤T[k].props.length∧T[k].props.length≤j+f∧Hid (T[k].props.all (fun p=>Q6a p.name)=(T[k].props.drop j).all (fun p=>Q6a p.name))∧Below wr.heap.size wr wx)
    case atStart=>exact⟨0,rfl,by omega,by omega,by simp[Hid],Bq⟩
    case round=>
     obtain⟨j,rfl,hj,jq,hA,Hc⟩:=hrel;have Hg:=hb.trans (Hc.mono Hy);have mI:=Hg.size;by_cases g9:j<T[k].props.length
     ·obtain⟨gp,op,rfl,ly,d0,d1,e0,e1⟩:=(M1.o.new Hc).at j g9;have Kv:=fun wx=>Qyc (T[k].props[j]).name wx e0;have gH:=hid (show(T[k].props.drop j).all (fun p=>Q6a p.name)=(Q6a (T[k].props[j]).name&&(T[k].props.drop (j+1)).all (fun p=>Q6a p.name))from by rw[List.drop_eq_getElem_cons g9];rfl);generalize Q6a (T[k].props[j]).name=y at Kv gH;have HB:=hid Kv;clear Kv;cases y with
      | true=>
       go_wp2_with fail;refine(HB.o _).mono ?_;rintro e w' ⟨rfl,rfl⟩;go_wp2_with fail;go_roundg (gk-1)
       case measure=>omega
       case rel=>exact⟨j+1,by go_num,by omega,by omega,by show _=_;rw[hA.o,gH.o,Bool.true_and],Hc.alloc Hc.size _⟩
      | false=>
       go_wp2_with fail;refine(HB.o _).mono ?_;rintro e w' ⟨rfl,rfl⟩;go_wp2_with fail;go_ret;exact⟨Qka (by rw[hN.o,Hk.o,hA.o,gH.o];simp),Hg.alloc mI _⟩
     go_wp2_with fail;go_roundg (go-1)
     case measure=>omega
     case rel=>exact⟨k+1,by go_num,by omega,by omega,by show _=_;rw[hN.o,Hk.o,hA.o,List.drop_eq_nil_of_le (by omega),Gl.o];simp,Hg⟩
   obtain⟨GN,Ga,q1,q2,hn,hh⟩:=k9;have Gl:=hid hh;clear hh;have Ht:=fun wx=>Qac T[k].name wx (by unfold maxLen;omega);rw[hn]at Ht;have Kg:=hid Ht;clear Ht hn;go_wp2_with fail;refine(Kg.o _).mono ?_;rintro e w' ⟨rfl,rfl⟩;go_wp2_with fail;go_ret;exact⟨Qka (by rw[hN.o,Hk.o,Gl.o];simp),hb.alloc Hy _⟩
  go_wp2_with fail;go_ret;exact⟨Qka (by rw[hN.o,List.drop_eq_nil_of_le (by omega)];rfl),hb⟩
theorem QWc(z:Value)(n:Nat):madeCells #[z] n=Array.replicate n z:=by
 unfold madeCells;apply Array.ext
 ·simp
 intro i h1 h2;simp[Nat.mod_one]
theorem Qht:(prog.info? 9).map (fun i=>(i.zero,i.size,i.bytes))=some (some (.string ⟨#[]⟩),1,16):=by kernel_rfl
theorem QXp(n:Nat)(hn:n≤1000)(wx:World):(Instr.makeSlice 70 (.int .i64 n) (.int .i64 n)).run prog wx=.ok (.slice (some ⟨wx.heap.size,0,none⟩) n n) (wx.alloc (.cells (Array.replicate n (.string ⟨#[]⟩)) 9)):=by
 obtain⟨i0,hi,Hz,Ho,H4⟩:=info_parts Qht;have:=run_make (P:=prog) wx 70 9 i0 _ underlying70 hi Hz .i64 .i64 n n (by omega) (by omega) (by rw[H4];omega) (by omega);rw[this,Ho,show(Value.string ⟨#[]⟩).cells=#[.string ⟨#[]⟩]from rfl];simp[QWc]
def QAd(l:List ByteArray):Array Value:=(l.map Value.string).toArray
theorem Qym(l:List ByteArray)(k:Nat)(h:k<l.length):(QAd l)[k]? = some (.string l[k]):=by simp[QAd,h]
theorem Qil(l:List ByteArray)(k:Nat)(s:ByteArray):(QAd l).setIfInBounds k (.string s)=QAd (l.set k s):=by simp[QAd,List.map_set]
theorem QZo{l:List Qqa}(h:l.length≤1):Qjd l=true:=by
 match l with
 | []=>rfl
 | [_]=>rfl
 | a::b::r=>simp at h
theorem Q1o(l:List Qqa)(j:Nat)(h0:1≤j)(h:j<l.length):Qjd (l.drop (j-1))=(ltS (l[j-1]'(by omega)).name l[j].name&&Qjd (l.drop j)):=by
 obtain⟨i,rfl⟩:∃i,j=i+1:=⟨j-1,by omega⟩;simp only[Nat.add_sub_cancel];rw[List.drop_eq_getElem_cons (show i<l.length by omega),List.drop_eq_getElem_cons h]
 rfl
theorem QMe(T:List Qba)(i:Nat)(last:List ByteArray)(n:Qba)(r:List Qba):QQb T i last (n::r)=(Qjd n.props&&(if i=0 then QQb T 1 last r else
 (decide (0≤QHg T n.parent (i+1) (i-1)) && !ltS n.name (last.getD (QHg T n.parent (i+1) (i-1)).toNat ByteArray.empty)&&QQb T (i+1) (last.set (QHg T n.parent (i+1) (i-1)).toNat n.name) r))):=rfl
theorem QEm(R:Nat→Prop)(v:Value)(T:List Qba)(w:World)(hT:Qoa R w v T)(hn:Q3a T=true)(hl:T.length≤1000) :
 Calls prog 73 #[.agg #[v]] w fun e w'=>e=.returned (.bool (Qxb T))∧Below w.heap.size w w':=by
 obtain⟨a,cap,rfl,gy,gh⟩:=hT.shape;have HT:=hid hT;clear hT;have Kg:=hid hn;clear hn;have bR:=QXp T.length hl;go_enter func73,ntmps73;go_wp2_with fail;clear bR
 go_loopg [15] (T.length) (fun f x wr=>∃(k:Nat) (last:List ByteArray),x=.int .i64 k∧k≤T.length∧T.length≤k+f∧last.length=T.length∧Hid (Qxb T=QQb T k last (T.drop k))∧Below w.heap.size w wr∧
  Holds wr w.heap.size #[.slice a T.length cap] 27∧Holds wr (w.heap.size+1) (QAd last) 9)
 case atStart=>
  refine⟨0,List.replicate T.length ByteArray.empty,rfl,by omega,by omega,by simp,by simp[Hid,Qxb],(Bq).alloc (by simp) _,(Holds.new w _ _).alloc _,?_⟩;have:=Holds.new (w.alloc (.cells #[.slice a T.length cap] 27)) (Array.replicate T.length (.string ⟨#[]⟩)) 9;rw[show(w.alloc (.cells #[.slice a T.length cap] 27)).heap.size=w.heap.size+1 from by simp]at this;rw[show QAd (List.replicate T.length ByteArray.empty)=Array.replicate T.length (.string ⟨#[]⟩)from by simp[QAd];right;rfl];exact this
 case round=>
  obtain⟨go,rfl⟩:∃x:Nat,x=gk:=⟨_,rfl⟩;obtain⟨k,last,rfl,hk,hf,M8,hW,hb,hB,hS⟩:=hrel;have Hy:=hb.size;have bx0:=hB.cell 0;have blt:=hB.lt;have slt:=hS.lt;by_cases Hh:k<T.length
  ·obtain⟨g,o,pa,pc,rfl,hg,c0,c1,c2,hp,p1,p2,b0,b1,b2⟩:=(HT.o.new hb).at k Hh;have M1:=hid hp;clear hp;have Hk:=hid (show QQb T k last (T.drop k)=QQb T k last (T[k]::T.drop (k+1))from by rw[List.drop_eq_getElem_cons Hh]);have Gv:=Quc Kg.o k Hh;have Mz:=hid Gv;clear Gv;have Kc:=Holds.new wr #[.int .i64 T[k].parent,.string T[k].name,.slice pa T[k].props.length pc] 46;go_wp2_with fail
   go_loopg [6] (T[k].props.length) (fun f x wx=>∃(j m:Nat),x=.int .i64 j∧1≤j∧T[k].props.length≤j+f∧(1<j→j≤T[k].props.length)∧Hid (Qjd T[k].props=Qjd (T[k].props.drop (j-1)))∧
    wx=(wr.alloc (.cells #[.int .i64 T[k].parent,.string T[k].name,.slice pa T[k].props.length pc] 46)).drewN m)
   case atStart=>exact⟨1,0,rfl,by omega,by omega,by omega,by simp[Hid],rfl⟩
   case round=>
    obtain⟨j,m,rfl,o5,jq,Ge,hA,rfl⟩:=hrel;by_cases g9:j<T[k].props.length
    ·obtain⟨gp,op,e1,ly,d0,d1,d2,d3⟩:=M1.o.at j g9;obtain⟨gq,oq,e2,uC,f0,f1,f2,f3⟩:=M1.o.at (j-1) (by omega);subst e1;cases e2;have uG:j-1<T[k].props.length:=by omega
     have GQ:IntKind.i64.wrap ((j:Int)-1)=(j:Int)-1:=IntWalk.i64_in _ (by omega);have MQ:(0:Int)≤(j:Int)-1:=by omega
     have MS:((j:Int)-1).toNat=j-1:=by omega
     have MT:(j:Int)-1<(T[k].props.length:Int):=by omega
     have io:(j:Int)<(T[k].props.length:Int):=by omega
     have k8:=hid (Q1o T[k].props j o5 g9);cases GI:Op.bytesLess (T[k].props[j-1]).name.toList (T[k].props[j]).name.toList with
     | true=>
      have hL:=hid (show ltS (T[k].props[j-1]).name (T[k].props[j]).name=true from GI);go_wp2_with fail;go_quiet(fail);go_wp2_with fail;clear GQ MQ MS MT io;go_roundg (gk-1)
      case measure=>omega
      case rel=>exact⟨j+1,_,by go_num,by omega,by omega,by omega,by show _=_;rw[hA.o,k8.o,hL.o,Bool.true_and];rfl,rfl⟩
     | false=>
      have hL:=hid (show ltS (T[k].props[j-1]).name (T[k].props[j]).name=false from GI);go_wp2_with fail;go_quiet(fail);go_wp2_with fail;clear GQ MQ MS MT io;go_ret;exact⟨Qka (by rw[hW.o,Hk.o,QMe,hA.o,k8.o,hL.o];rfl),QJa (QJa (hb.alloc Hy _) _) _⟩
    have qB:=hid (show Qjd T[k].props=true from by rw[hA.o];exact QZo (by simp;omega));clear hA;have Hg:Below w.heap.size w ((wr.alloc (.cells #[.int .i64 T[k].parent,.string T[k].name,.slice pa T[k].props.length pc] 46)).drewN m):=QJa (hb.alloc Hy _) m;have j8:=(hB.alloc (.cells #[.int .i64 T[k].parent,.string T[k].name,.slice pa T[k].props.length pc] 46)).drewN m;have Mm:=(hS.alloc (.cells #[.int .i64 T[k].parent,.string T[k].name,.slice pa T[k].props.length pc] 46)).drewN m;by_cases GN:k=0
    ·subst GN;have ew:=hid (show Qxb T=QQb T 1 last (T.drop 1)from by rw[hW.o,Hk.o,QMe,qB.o,if_pos rfl];rfl);go_wp2_with fail;go_roundg (go-1)
     case measure=>omega
     case rel=>exact⟨1,last,by go_num,by omega,by omega,M8,ew.o,Hg,j8,Mm⟩
    have dx:((k:Int)==0)=false:=by simp;omega
    obtain⟨lJ,pT⟩:=Mz.o.2 (by omega);have Ga:IntKind.i64.wrap ((k:Int)-1)=(k:Int)-1:=IntWalk.i64_in _ (by omega);have ew:=hid (show Qxb T=(decide (0≤QHg T T[k].parent (k+1) ((k:Int)-1)) && !ltS T[k].name (last.getD (QHg T T[k].parent (k+1) ((k:Int)-1)).toNat ByteArray.empty)&&QQb T (k+1) (last.set (QHg T T[k].parent (k+1) ((k:Int)-1)).toNat T[k].name) (T.drop (k+1)))from by rw[hW.o,Hk.o,QMe,qB.o,if_neg GN,Bool.true_and]);go_wp2_with fail;clear Ga
    go_loopg [7] k (fun f x wx=>∃(u:Int) (n m2:Nat),x=.int .i64 u∧u+1≤f∧-1≤u∧u<k∧u<n∧Hid (QHg T T[k].parent (k+1) ((k:Int)-1)=QHg T T[k].parent n u)∧
     wx=(wr.alloc (.cells #[.int .i64 T[k].parent,.string T[k].name,.slice pa T[k].props.length pc] 46)).drewN m2)
    case atStart=>exact⟨(k:Int)-1,k+1,m,by go_num,by omega,by omega,by omega,by omega,rfl,rfl⟩
    case round=>
     obtain⟨u,n,m2,rfl,ux,qh,AK,yx,hU,rfl⟩:=hrel;have Hu:Below w.heap.size w ((wr.alloc (.cells #[.int .i64 T[k].parent,.string T[k].name,.slice pa T[k].props.length pc] 46)).drewN m2):=QJa (hb.alloc Hy _) m2;by_cases hneg:u<0
     ·have qR:=hid (show QHg T T[k].parent n u=u from by cases n with
       | zero=>rfl
       | succ n=>simp[QHg,hneg])
      have AL:decide (u<0)=true:=by simpa using hneg
      have vM:decide (0≤u)=false:=by simpa using hneg
      go_wp2_with fail;go_quiet(fail);go_wp2_with fail;go_ret;exact⟨Qka (by rw[ew.o,hU.o,qR.o,vM];rfl),QJa Hu _⟩
     have rB:0≤u:=by omega
     by_cases dh:u=T[k].parent
     ·have qR:=hid (show QHg T T[k].parent n u=u from by cases n with
       | zero=>rfl
       | succ n=>simp[QHg,dh])
      obtain⟨y,rfl⟩:=Int.eq_ofNat_of_zero_le rB;have mZ:y<last.length:=by omega
      have Hl:((y:Int) != T[k].parent)=false:=by simp[dh]
      have AL:decide ((y:Int)<0)=false:=by simp
      have hyI:(y:Int)<(T.length:Int):=by omega
      have pA:wr.cell? ⟨w.heap.size+1,y,none⟩=some (.string last[y]):=(hS.cell y).trans (Qym last y mZ);have hlf:wr.frozen? ⟨w.heap.size+1,y,none⟩=false:=hS.free y;have Mv:=hid dh;clear dh;have JH:=hid (show last.getD y ByteArray.empty=last[y]from by simp[List.getD,mZ]);cases KE:Op.bytesLess T[k].name.toList last[y].toList with
      | true=>
       have hL:=hid (show ltS T[k].name last[y]=true from KE);go_wp2_with fail;go_quiet(fail);go_wp2_with fail;go_ret;exact⟨Qka (by rw[ew.o,hU.o,qR.o,Int.toNat_natCast,JH.o,hL.o];simp),QJa Hu _⟩
      | false=>
       have hL:=hid (show ltS T[k].name last[y]=false from KE);go_wp2_with fail;go_quiet(fail);go_wp2_with fail;go_roundg (go-1)
       case measure=>omega
       case rel=>
        refine⟨k+1,last.set y T[k].name,by go_num,by omega,by omega,by simpa using M8,?_,?_,?_,?_⟩
        ·show _=_;rw[ew.o,hU.o,qR.o,Int.toNat_natCast,JH.o,hL.o];simp
        ·refine(QJa (hb.alloc Hy _) _).setCell ?_ _;show w.heap.size≤w.heap.size+1;omega
        ·refine((hB.alloc _).drewN _).other _ _ ?_;show w.heap.size≠w.heap.size+1;omega
        rw[←Qil];exact((hS.alloc _).drewN _).set y (.string T[k].name)
     have Hl:(u != T[k].parent)=true:=by simpa using dh
     obtain⟨y,rfl⟩:=Int.eq_ofNat_of_zero_le rB;have mZ:y<T.length:=by omega
     obtain⟨g2,o2,pa2,pc2,e3,_,f0,_⟩:=(HT.o.new hb).at y mZ;cases e3;have vw:=Quc Kg.o y mZ;have vI:Hid (QHg T T[k].parent n (y:Int)=QHg T T[k].parent (n-1) T[y].parent):=by
      obtain⟨n',rfl⟩:∃n',n=n'+1:=⟨n-1,by omega⟩;show _=_;simp only[QHg];rw[if_neg (by rintro(e|e);omega;exact dh e),Int.toNat_natCast,Qxa mZ];rfl
     have hq:-1≤T[y].parent∧T[y].parent<y:=by
      by_cases h0:y=0
      ·have:=vw.1 h0;omega
      have:=vw.2 (by omega);omega
     obtain⟨KI,Az⟩:=hq;clear vw dh;go_wp2_with fail;go_roundg (gk-1)
     case measure=>omega
     case rel=>exact⟨T[y].parent,n-1,m2,rfl,by omega,KI,by omega,by omega,by show _=_;rw[hU.o,vI.o],rfl⟩
  go_wp2_with fail;go_ret;exact⟨Qka (by rw[hW.o,List.drop_eq_nil_of_le (by omega)];rfl),hb⟩
theorem Q0p(r:List UInt8):QTa (97::r)=QTa (95::r):=by
 unfold QTa;simp[Que,show QIa 97=true from by decide,show QYb 97=true from by decide,show QYb 95=true from by decide,show QIa 95=false from by decide]
theorem Q2h(r:List UInt8):QXe (35::r)=(QTa (97::r) && !Qef r 64):=by
 unfold QXe;rw[if_pos (by simp[Lib.hasPrefix]),Q0p];simp[Qef]
theorem Qwg(c:UInt8)(r:List UInt8)(h:c.toNat≠35):QXe (c::r)=(QTa (c::r) && !Qef (c::r) 64):=by
 unfold QXe;rw[if_neg (by simp[Lib.hasPrefix];intro e;exact h (by rw[←e];rfl))]
theorem Q9r(l:List UInt8)(h:¬(1≤l.length∧l.length≤31)):QXe l=false:=by
 cases l with
 | nil=>rfl
 | cons c r=>
  by_cases hc:c.toNat=35
  ·have:c=35:=UInt8.toNat_inj.1 hc;subst this;rw[Q2h];unfold QTa;rw[show decide (1≤(97::r:List UInt8).length∧(97::r:List UInt8).length≤31)=false from by simpa using h];rfl
  rw[Qwg c r hc];unfold QTa;rw[decide_eq_false h];rfl
theorem Qwt(l:List UInt8)(h:Qef l 64=true):QXe l=false:=by
 cases l with
 | nil=>rfl
 | cons c r=>
  by_cases hc:c.toNat=35
  ·have:c=35:=UInt8.toNat_inj.1 hc;subst this;rw[Q2h,show Qef r 64=true from by simpa[Qef]using h];simp
  rw[Qwg c r hc,h];simp
theorem Q0c(s:ByteArray)(w:World)(hs:s.size≤9223372036854775807) :
 Calls prog 64 #[.string s] w fun e w'=>e=.returned (.bool (Q6a s))∧w=w':=by
 by_cases hl:1≤s.size∧s.size≤31
 ·obtain⟨h1,h2⟩:=hl;go_enter func64,ntmps64;go_wp2_with fail
  go_loop [3] (fun i=>∃k:Nat,k≤s.size∧i=.int .i64 k∧Hid (Qef s.data.toList 64=Qef (s.data.toList.drop k) 64)) (fun i=>s.size-(intOf i).toNat)
  case atStart=>exact⟨0,Nat.zero_le _,rfl,rfl⟩
  case round=>
   obtain⟨k,hk,rfl,hB⟩:=hrel;by_cases Hh:k<s.size
   ·have hD:=hid (Qdb s k Hh);by_cases h64:s[k].toNat=64
    ·have hP:=hid (show Q6a s=false from Qwt _ (by rw[hB.o,hD.o,QCe,h64];rfl));have tm:((s[k].toNat:Int)==64)=true:=by simp[h64]
     clear h64;go_wp2_with fail;go_ret;exact⟨Qka (by rw[hP.o]),rfl⟩
    have tm:((s[k].toNat:Int)==64)=false:=by simp;omega
    have hS:=hid (show Qef s.data.toList 64=Qef (s.data.toList.drop (k+1)) 64 from by
     rw[hB.o,hD.o,QCe,show decide (((s[k].toNat:Nat):Int)=64)=false from by simp;omega];rfl)
    clear h64;go_wp2_with fail
    go_round
    case rel=>exact⟨k+1,by omega,by go_num,hS⟩
    case measure=>simp[intOf];omega
   have hM:=hid (show Qef s.data.toList 64=false from by rw[hB.o,QFc s k (by omega)];rfl);have hD:=hid (show s.data.toList=s[0]::s.data.toList.drop 1 from by have:=Qdb s 0 h1;rw[List.drop_zero]at this;exact this);clear hB hk;by_cases h35:s[0].toNat=35
   ·have sX:((s[0].toNat:Int)==35)=true:=by simp[h35]
    have hP:=hid (show Q6a s=QTa (97::s.data.toList.drop 1)from by
     have kE:=hM.o;unfold Q6a;rw[hD.o]at kE ⊢;rw[QCe]at kE;have e:s[0]=35:=UInt8.toNat_inj.1 h35;rw[e]at kE ⊢;rw[Q2h];simp at kE;simp[kE])
    by_cases mL:s.size=1
    ·have pL:((s.size:Int)==1)=true:=by simp;omega
     have mF:=hid (show Q6a s=true from by rw[hP.o,List.drop_eq_nil_of_le (by simp;omega)];decide);clear h35 mL;go_wp2_with fail;go_ret;exact⟨Qka (by rw[mF.o]),rfl⟩
    have pL:((s.size:Int)==1)=false:=by simp;omega
    obtain⟨c,Gk,Hw,c9⟩:=QNe ⟨#[97]⟩ (s.extract 1 s.size) (by rw[show(⟨#[97]⟩:ByteArray).size=1 from rfl];simp;omega);have rd:c.size≤maxLen:=by rw[Hw,show(⟨#[97]⟩:ByteArray).size=1 from rfl];simp;unfold maxLen;omega
    have Ht:=hid (Qxd c · rd);have mF:=hid (show QTa c.data.toList=Q6a s from by rw[hP.o,c9,Qpk];rfl);clear h35 mL Hw c9 rd;go_wp2_with fail;refine(Ht.o _).mono ?_;rintro e w' ⟨rfl,rfl⟩;go_wp2_with fail;go_ret;exact⟨Qka mF.o,rfl⟩
   have sX:((s[0].toNat:Int)==35)=false:=by simp;omega
   have hP:=hid (show QTa s.data.toList=Q6a s from by
    have kE:=hM.o;unfold Q6a;rw[hD.o]at kE ⊢;rw[Qwg _ _ h35,kE];simp)
   clear h35;go_wp2_with fail;refine(Qxd s _ (by unfold maxLen;omega)).mono ?_;rintro e w' ⟨rfl,rfl⟩;go_wp2_with fail;go_ret;exact⟨Qka hP.o,rfl⟩
 have hP:=hid (show Q6a s=false from Q9r _ (by simpa using hl));have Hw:(s.size:Int)<1∨(1≤(s.size:Int)∧31<(s.size:Int)):=by omega
 clear hl;rcases Hw with h|⟨h,h'⟩
 all_goals
  go_enter func64,ntmps64;go_wp2_with fail;go_ret;exact⟨Qka (by rw[hP.o]),rfl⟩
theorem Quo(R:Nat→Prop)(v:Value)(T:List Qba)(w:World)(hT:Qoa R w v T) :
 Calls prog 89 #[.agg #[v]] w fun e w'=>e=.returned (.bool (Q3a T))∧Below w.heap.size w w':=by
 obtain⟨a,cap,rfl,gy,gh⟩:=hT.shape;have HT:=hid hT;clear hT;go_enter func89,ntmps89;go_wp2_with fail;go_loopg [10] (T.length) (fun f x wr=>∃k:Nat,x=.int .i64 k∧k≤T.length∧T.length≤k+f∧Hid (Q3a T=Qsd k (T.drop k))∧Below w.heap.size w wr)
 case atStart=>exact⟨0,rfl,by omega,by omega,by simp[Hid,Q3a],Bq⟩
 case round=>
  obtain⟨go,rfl⟩:∃x:Nat,x=gk:=⟨_,rfl⟩;obtain⟨k,rfl,hk,hf,hN,hb⟩:=hrel;have Hy:=hb.size;by_cases Hh:k<T.length
  ·obtain⟨g,o,pa,pc,rfl,hg,c0,c1,c2,hp,p1,p2,b0,b1,b2⟩:=(HT.o.new hb).at k Hh;have M1:=hid hp;clear hp;have Hk:=hid (show Qsd k (T.drop k)=(QHd k T[k]&&(T[k].props.all fun p=>Q6a p.name)&&Qsd (k+1) (T.drop (k+1)))from by rw[List.drop_eq_getElem_cons Hh];rfl);have k9:=QRi k T[k];rcases k9 with k9|k9|k9|k9|k9|k9|k9
   ·obtain⟨GN,Ga,q1,q2,hh⟩:=k9;have Gl:=hid hh;clear hh;go_wp2_with fail;go_loopg [51] (T[k].props.length) (fun f x wx=>∃j:Nat,x=.int .i64 j∧j≤T[k].props.length∧T[k].props.length≤j+f∧Hid (T[k].props.all (fun p=>Q6a p.name)=(T[k].props.drop j).all (fun p=>Q6a p.name))∧Below wr.heap.size wr wx)
    case atStart=>exact⟨0,rfl,by omega,by omega,by simp[Hid],Bq⟩
    case round=>
     obtain⟨j,rfl,hj,jq,hA,Hc⟩:=hrel;have Hg:=hb.trans (Hc.mono Hy);have mI:=Hg.size;by_cases g9:j<T[k].props.length
     ·obtain⟨gp,op,rfl,ly,d0,d1,e0,e1⟩:=(M1.o.new Hc).at j g9;have Kv:=fun wx=>Q0c (T[k].props[j]).name wx e0;have gH:=hid (show(T[k].props.drop j).all (fun p=>Q6a p.name)=(Q6a (T[k].props[j]).name&&(T[k].props.drop (j+1)).all (fun p=>Q6a p.name))from by rw[List.drop_eq_getElem_cons g9];rfl);generalize Q6a (T[k].props[j]).name=y at Kv gH;have HB:=hid Kv;clear Kv;cases y with
      | true=>
       go_wp2_with fail;refine(HB.o _).mono ?_;rintro e w' ⟨rfl,rfl⟩;go_wp2_with fail;go_roundg (gk-1)
       case measure=>omega
       case rel=>exact⟨j+1,by go_num,by omega,by omega,by show _=_;rw[hA.o,gH.o,Bool.true_and],Hc.alloc Hc.size _⟩
      | false=>
       go_wp2_with fail;refine(HB.o _).mono ?_;rintro e w' ⟨rfl,rfl⟩;go_wp2_with fail;go_ret;exact⟨Qka (by rw[hN.o,Hk.o,hA.o,gH.o];simp),Hg.alloc mI _⟩
     go_wp2_with fail;go_roundg (go-1)
     case measure=>omega
     case rel=>exact⟨k+1,by go_num,by omega,by omega,by show _=_;rw[hN.o,Hk.o,hA.o,List.drop_eq_nil_of_le (by omega),Gl.o];simp,Hg⟩
   ·obtain⟨GN,Ga,q1,hh⟩:=k9;have Gl:=hid hh;clear hh;go_wp2_with fail;go_ret;exact⟨Qka (by rw[hN.o,Hk.o,Gl.o];simp),hb.alloc Hy _⟩
   ·obtain⟨GN,Ga,q1,q2,q3,hh⟩:=k9;have Gl:=hid hh;clear hh;go_wp2_with fail;go_ret;exact⟨Qka (by rw[hN.o,Hk.o,Gl.o];simp),hb.alloc Hy _⟩
   ·obtain⟨GN,Ga,q1,hh⟩:=k9;have Gl:=hid hh;clear hh;go_wp2_with fail;go_ret;exact⟨Qka (by rw[hN.o,Hk.o,Gl.o];simp),hb.alloc Hy _⟩
   ·obtain⟨GN,Ga,q1,q2,hh⟩:=k9;have Gl:=hid hh;clear hh;go_wp2_with fail;go_ret;exact⟨Qka (by rw[hN.o,Hk.o,Gl.o];simp),hb.alloc Hy _⟩
   ·obtain⟨GN,Ga,q1,q2,hn,hh⟩:=k9;have Gl:=hid hh;clear hh;have Ht:=fun wx=>Qxd T[k].name wx (by unfold maxLen;omega);rw[hn]at Ht;have Kg:=hid Ht;clear Ht hn;go_wp2_with fail;refine(Kg.o _).mono ?_;rintro e w' ⟨rfl,rfl⟩;go_wp2_with fail;go_loopg [51] (T[k].props.length) (fun f x wx=>∃j:Nat,x=.int .i64 j∧j≤T[k].props.length∧T[k].props.length≤j+f∧Hid (T[k].props.all (fun p=>Q6a p.name)=(T[k].props.drop j).all (fun p=>Q6a p.name))∧Below wr.heap.size wr wx)
    case atStart=>exact⟨0,rfl,by omega,by omega,by simp[Hid],Bq⟩
    case round=>
     obtain⟨j,rfl,hj,jq,hA,Hc⟩:=hrel;have Hg:=hb.trans (Hc.mono Hy);have mI:=Hg.size;by_cases g9:j<T[k].props.length
     ·obtain⟨gp,op,rfl,ly,d0,d1,e0,e1⟩:=(M1.o.new Hc).at j g9;have Kv:=fun wx=>Q0c (T[k].props[j]).name wx e0;have gH:=hid (show(T[k].props.drop j).all (fun p=>Q6a p.name)=(Q6a (T[k].props[j]).name&&(T[k].props.drop (j+1)).all (fun p=>Q6a p.name))from by rw[List.drop_eq_getElem_cons g9];rfl);generalize Q6a (T[k].props[j]).name=y at Kv gH;have HB:=hid Kv;clear Kv;cases y with
      | true=>
       go_wp2_with fail;refine(HB.o _).mono ?_;rintro e w' ⟨rfl,rfl⟩;go_wp2_with fail;go_roundg (gk-1)
       case measure=>omega
       case rel=>exact⟨j+1,by go_num,by omega,by omega,by show _=_;rw[hA.o,gH.o,Bool.true_and],Hc.alloc Hc.size _⟩
      | false=>
       go_wp2_with fail;refine(HB.o _).mono ?_;rintro e w' ⟨rfl,rfl⟩;go_wp2_with fail;go_ret;exact⟨Qka (by rw[hN.o,Hk.o,hA.o,gH.o];simp),Hg.alloc mI _⟩
     go_wp2_with fail;go_roundg (go-1)
     case measure=>omega
     case rel=>exact⟨k+1,by go_num,by omega,by omega,by show _=_;rw[hN.o,Hk.o,hA.o,List.drop_eq_nil_of_le (by omega),Gl.o];simp,Hg⟩
   obtain⟨GN,Ga,q1,q2,hn,hh⟩:=k9;have Gl:=hid hh;clear hh;have Ht:=fun wx=>Qxd T[k].name wx (by unfold maxLen;omega);rw[hn]at Ht;have Kg:=hid Ht;clear Ht hn;go_wp2_with fail;refine(Kg.o _).mono ?_;rintro e w' ⟨rfl,rfl⟩;go_wp2_with fail;go_ret;exact⟨Qka (by rw[hN.o,Hk.o,Gl.o];simp),hb.alloc Hy _⟩
  go_wp2_with fail;go_ret;exact⟨Qka (by rw[hN.o,List.drop_eq_nil_of_le (by omega)];rfl),hb⟩
theorem Q5i(R:Nat→Prop)(v:Value)(T:List Qba)(u:Int)(w:World)(hT:Qoa R w v T)(hn:Q3a T=true)(hu:u<T.length)(qh:-1≤u)(hl:T.length≤1000) :
 Calls prog 91 #[.agg #[v],.int .i64 u] w fun e w'=>e=.returned (.int .i64 (Q8b T T.length u))∧Below w.heap.size w w':=by
 obtain⟨a,cap,rfl,gy,gh⟩:=hT.shape;have HT:=hid hT;clear hT;have HN:=hid hn;clear hn;go_enter func91,ntmps91;go_wp2_with fail
 go_loopg [1,5] (u.toNat) (fun f x y wr=>∃(x':Int) (y':Nat),x=.int .i64 x'∧y=.int .i64 y'∧x'.toNat≤f∧-1≤x'∧x'<T.length∧y'+x'.toNat≤u.toNat∧Hid (Q8b T T.length u=y'+Q8b T T.length x')∧
  ∃n,wr=(w.alloc (.cells #[.slice a T.length cap] 27)).drewN n)
 case atStart=>exact⟨u,0,rfl,rfl,by omega,qh,hu,by omega,by show _=_;omega,0,rfl⟩
 case round=>
  obtain⟨x,y,rfl,rfl,hf,JM,MV,hy,hD,n,rfl⟩:=hrel;by_cases h0:0<x
  ·obtain⟨k,rfl⟩:=Int.eq_ofNat_of_zero_le (show 0≤x by omega);have hk:k<T.length:=by omega
   obtain⟨g,o,pa,pc,rfl,hg,c0,c1,c2,hp,p1,p2,b0,b1,b2⟩:=HT.o.at k hk;have Gv:=(Quc HN.o k hk).2 (by omega);have tD:Hid (Q8b T T.length u=(y+1:Nat)+Q8b T T.length T[k].parent):=by
    show _=_;rw[hD.o];have e1:Q8b T T.length (k:Int)=Q8b T (T.length-1) (QWa T k)+1:=by
     obtain⟨m,hm⟩:∃m,T.length=m+1:=⟨T.length-1,by omega⟩;rw[hm];simp only[Q8b];rw[if_pos h0];rfl
    rw[e1,Qxa hk,Qok HN.o T.length T[k].parent (by omega) (by omega) (T.length-1) T.length (by omega) (by omega)];omega
   clear hp hD;go_wp2_with fail;go_roundg (gk-1)
   case measure=>omega
   case rel=>exact⟨T[k].parent,y+1,rfl,by go_num,by omega,by omega,by omega,by omega,tD,n,rfl⟩
  go_wp2_with fail;go_ret;refine⟨QXa ?_,QJa (Bq) n⟩;have e1:Q8b T T.length x=0:=by cases Jg:T.length with
   | zero=>rfl
   | succ m=>simp[Q8b,h0]
  rw[hD.o,e1];simp
def Qvs(p:Qqa):Bool:=decide (p.value.size≤256)
theorem QIh(n:Qba):Qbf n=(decide (n.props.length≤24)&&n.props.all Qvs):=rfl
theorem QWi{T:List Qba}(h:T.length=0∨120<T.length):Qza T=false:=by
 unfold Qza;rw[decide_eq_false (by omega)];rfl
theorem Q7h(R:Nat→Prop)(v:Value)(T:List Qba)(w:World)(hT:Qoa R w v T) :
 Calls prog 67 #[.agg #[v]] w fun e w'=>e=.returned (.bool (!Qza T))∧Below w.heap.size w w':=by
 obtain⟨a,cap,rfl,gy,gh⟩:=hT.shape;have HT:=hid hT;clear hT;by_cases hl:1≤T.length∧T.length≤120
 ·obtain⟨GO,gS⟩:=hl;have hL:=hid (show Qza T=T.all Qbf from by unfold Qza;rw[decide_eq_true ⟨GO,gS⟩,Bool.true_and]);go_enter func67,ntmps67;go_wp2_with fail;go_loopg [20] (T.length) (fun f x wr=>∃k:Nat,x=.int .i64 k∧k≤T.length∧T.length≤k+f∧Hid (T.all Qbf=(T.drop k).all Qbf)∧Below w.heap.size w wr)
  case atStart=>exact⟨0,rfl,by omega,by omega,by simp[Hid],Bq⟩
  case round=>
   obtain⟨go,rfl⟩:∃x:Nat,x=gk:=⟨_,rfl⟩;obtain⟨wo,rfl⟩:∃x:World,x=wr:=⟨_,rfl⟩;obtain⟨k,rfl,hk,hf,hN,hb⟩:=hrel;have Hy:=hb.size;by_cases Hh:k<T.length
   ·obtain⟨g,o,pa,pc,rfl,hg,c0,c1,c2,hp,p1,p2,b0,b1,b2⟩:=(HT.o.new hb).at k Hh;have M1:=hid hp;clear hp;have Hk:=hid (show(T.drop k).all Qbf=(Qbf T[k]&&(T.drop (k+1)).all Qbf)from by rw[List.drop_eq_getElem_cons Hh];rfl);by_cases jE:T[k].props.length≤24
    ·have re:=hid (show Qbf T[k]=T[k].props.all Qvs from by rw[QIh,decide_eq_true jE,Bool.true_and]);go_wp2_with fail;go_loopg [31] (T[k].props.length) (fun f x wx=>∃j:Nat,x=.int .i64 j∧j≤T[k].props.length∧T[k].props.length≤j+f∧Hid (T[k].props.all Qvs=(T[k].props.drop j).all Qvs)∧Below wo.heap.size wo wx)
     case atStart=>exact⟨0,rfl,by omega,by omega,by simp[Hid],Bq⟩
     case round=>
      obtain⟨j,rfl,hj,jq,hA,Hc⟩:=hrel;have Hg:=hb.trans (Hc.mono Hy);have mI:=Hg.size;by_cases g9:j<T[k].props.length
      ·obtain⟨gp,op,rfl,ly,d0,d1,e0,e1⟩:=(M1.o.new Hc).at j g9;have gH:=hid (show(T[k].props.drop j).all Qvs=(Qvs T[k].props[j]&&(T[k].props.drop (j+1)).all Qvs)from by rw[List.drop_eq_getElem_cons g9];rfl);by_cases hv:T[k].props[j].value.size≤256
       ·have lP:=hid (show Qvs T[k].props[j]=true from decide_eq_true hv);go_wp2_with fail;go_roundg (gk-1)
        case measure=>omega
        case rel=>exact⟨j+1,by go_num,by omega,by omega,by show _=_;rw[hA.o,gH.o,lP.o,Bool.true_and],Hc.alloc Hc.size _⟩
       have lP:=hid (show Qvs T[k].props[j]=false from decide_eq_false hv);have hv':256<T[k].props[j].value.size:=by omega
       clear hv;go_wp2_with fail;go_ret;exact⟨Qka (by rw[hL.o,hN.o,Hk.o,re.o,hA.o,gH.o,lP.o];simp),Hg.alloc mI _⟩
      go_wp2_with fail;go_roundg (go-1)
      case measure=>omega
      case rel=>exact⟨k+1,by go_num,by omega,by omega,by show _=_;rw[hN.o,Hk.o,re.o,hA.o,List.drop_eq_nil_of_le (by omega)];simp,Hg⟩
    have re:=hid (show Qbf T[k]=false from by rw[QIh,decide_eq_false jE,Bool.false_and]);have cE:24<T[k].props.length:=by omega
    clear jE;go_wp2_with fail;go_ret;exact⟨Qka (by rw[hL.o,hN.o,Hk.o,re.o];simp),hb.alloc Hy _⟩
   go_wp2_with fail;go_ret;exact⟨Qka (by rw[hL.o,hN.o,List.drop_eq_nil_of_le (by omega)];rfl),hb⟩
 have Hw:T.length=0∨(T.length≠0∧120<T.length):=by omega
 rcases Hw with h|⟨h,h'⟩
 ·have hL:=hid (QWi (.inl h));have h1:((T.length:Int)<1):=by omega
  clear hl;go_enter func67,ntmps67;go_wp2_with fail;go_ret;exact⟨Qka (by rw[hL.o];rfl),Bq⟩
 have hL:=hid (QWi (.inr h'));have h1:1≤T.length:=by omega
 clear hl h;go_enter func67,ntmps67;go_wp2_with fail;go_ret;exact⟨Qka (by rw[hL.o];rfl),Bq⟩
structure Q2g where
 value:Int
 label:ByteArray
structure Qtf where
 kind:Int
 cells:List Q2g
 text:ByteArray
structure Qrc where
 kind:Int
 label:ByteArray
 name:ByteArray
 parts:List Qtf
 line:Int
 col:Int
abbrev Rs(α:Type):=Except (Nat × Int) α
section
variable(L:List Tok)
def tkN(i:Nat):Tok:=L.getD i ⟨8,[],0,0,0⟩
def txN(i:Nat):ByteArray:=⟨(tkN L i).text.toArray⟩
def isK(i:Nat)(kind:Int)(text:List UInt8):Bool:=decide ((tkN L i).kind=kind)&&(text.isEmpty||decide ((tkN L i).text=text))
def Qfl(s:List UInt8)(i:Nat):Rs Nat:=if isK L i 4 s=true then .ok (i+1)else .error (i,6)
def QKe(kind:Int)(right:List UInt8→Bool)(i:Nat):Rs Nat:=if (tkN L i).kind=kind then(if right (tkN L i).text=true then .ok (i+1)else .error (i,1))else .error (i,6)
def Qvg(i:Nat):Int × Int × Int:=Q3j ((evT (L.map tkX) 1 .prim 0 i).getD none)
def QBs:Nat→Nat→List UInt8→Rs (Nat × List UInt8)
 | 0,i,_=>.error (i,6)
 | n+1,i,acc=>
  if isK L i 4 [93]=true then .ok (i+1,acc)
  else if (tkN L i).kind≠2 then .error (i,6)
  else if 255<(tkN L i).value then .error (i,2)
  else QBs n (i+1) (acc++[((tkN L i).value % 256).toNat.toUInt8])
def QMg:Nat→Nat→List Q2g→Rs (Nat × List Q2g)
 | 0,i,_=>.error (i,6)
 | n+1,i,acc=>
  if isK L i 4 [62]=true then .ok (i+1,acc)
  else if (tkN L i).kind=6 then(if QTi (tkN L i).text=true then QMg n (i+1) (acc++[⟨0,txN L i⟩])else .error (i,1))
  else if (Qvg L i).2.2≠0 then .error (i,(Qvg L i).2.2)else QMg n (Qvg L i).2.1.toNat (acc++[⟨(Qvg L i).1,⟨#[]⟩⟩])
def QBf:Nat:=L.length+1
def Qjq(i:Nat):Rs (Nat × Qtf):=
 if (tkN L i).kind=3 then .ok (i+1,⟨2,[],txN L i⟩)
 else if (tkN L i).kind=6 then(if QTi (tkN L i).text=true then .ok (i+1,⟨4,[],txN L i⟩)else .error (i,1))
 else if isK L i 4 [60]=true then(match QMg L (QBf L) (i+1) []with
  | .ok (j,cs)=>.ok (j,⟨1,cs,⟨#[]⟩⟩)
  | .error e=>.error e)
 else if isK L i 4 [91]=true then(match QBs L (QBf L) (i+1) []with
  | .ok (j,b)=>.ok (j,⟨3,[],⟨b.toArray⟩⟩)
  | .error e=>.error e)
 else .error (i,6)
def QVk:Nat→List UInt8→Nat→List Qtf→Rs (Nat × List Qtf)
 | 0,_,i,_=>.error (i,6)
 | n+1,sep,i,acc=>
  if isK L i 4 sep=true then(match Qjq L (i+1)with
   | .ok (j,p)=>QVk n [44] j (acc++[p])
   | .error e=>.error e)
  else .ok (i,acc)
def Q7s(kind what:Int)(before:List UInt8)(right:List UInt8→Bool)(i:Nat):Rs (Nat × List Qrc):=
 match QKe L what right (i+1)with
 | .error e=>.error e
 | .ok j=>match Qfl L [59] j with
  | .error e=>.error e
  | .ok k=>.ok (k,[⟨kind,⟨#[]⟩,⟨(before++(tkN L (i+1)).text).toArray⟩,[],(tkN L i).line,(tkN L i).col⟩])
inductive Md where
 | body:Qrc→Nat→Md
 | mems:Nat→List Qrc→Md
 | member:Nat→Md
 | named:Nat→Md
def Qmi:Nat→Md→Nat→Rs (Nat × List Qrc)
 | 0,_,i=>.error (i,6)
 | n+1,.body d dp,i=>
  if isK L i 4 [123]=true then(if 8<dp then .error (i,3)else Qmi n (.mems dp [d]) (i+1))else .error (i,6)
 | n+1,.mems dp acc,i=>
  if isK L i 4 [125]=true then .ok (i+1,acc++[⟨2,⟨#[]⟩,⟨#[]⟩,[],(tkN L i).line,(tkN L i).col⟩])
  else(match Qmi n (.member dp) i with
   | .error e=>.error e
   | .ok (j,ds)=>Qmi n (.mems dp (acc++ds)) j)
 | n+1,.member dp,i=>
  if (tkN L i).kind=5 then(match QKe L 5 QTi i with
   | .error e=>.error e
   | .ok j=>match QKe L 1 QTa j with
    | .error e=>.error e
    | .ok k=>match Qmi n (.body ⟨1,txN L i,txN L j,[],(tkN L i).line,(tkN L i).col⟩ (dp+1)) k with
     | .error e=>.error e
     | .ok (m,ds)=>match Qfl L [59] m with
      | .error e=>.error e
      | .ok q=>.ok (q,ds))
  else if (tkN L i).kind=1 then(match Qmi n (.named dp) i with
   | .error e=>.error e
   | .ok (m,ds)=>match Qfl L [59] m with
    | .error e=>.error e
    | .ok q=>.ok (q,ds))
  else if isK L i 7 [100,101,108,101,116,101,45,112,114,111,112,101,114,116,121]=true then Q7s L 4 1 [] QXe i
  else if isK L i 7 [100,101,108,101,116,101,45,110,111,100,101]=true then Q7s L 5 1 [] QTa i
  else .error (i,6)
 | n+1,.named dp,i=>
  if isK L (i+1) 4 [123]=true then
   (if QTa (tkN L i).text=true then Qmi n (.body ⟨1,⟨#[]⟩,txN L i,[],(tkN L i).line,(tkN L i).col⟩ (dp+1)) (i+1)else .error (i,1))
  else if QXe (tkN L i).text=true then(match QVk L (QBf L) [61] (i+1) []with
   | .error e=>.error e
   | .ok (j,ps)=>.ok (j,[⟨3,⟨#[]⟩,txN L i,ps,(tkN L i).line,(tkN L i).col⟩]))
  else .error (i,1)
def QAp:Nat:=3*L.length+3
def Qsu(d:Qrc)(i:Nat):Rs (Nat × List Qrc):=
 match Qmi L (QAp L) (.body d 0) i with
 | .error e=>.error e
 | .ok (m,ds)=>match Qfl L [59] m with
  | .error e=>.error e
  | .ok q=>.ok (q,ds)
def Qnu(i:Nat):Rs (Nat × List Qrc):=
 if (tkN L i).kind=5 then(match QKe L 5 QTi i with
  | .error e=>.error e
  | .ok j=>match Qfl L [47] j with
   | .error e=>.error e
   | .ok k=>Qsu L ⟨1,txN L i,⟨#[47]⟩,[],(tkN L i).line,(tkN L i).col⟩ k)
 else if isK L i 4 [47]=true then Qsu L ⟨1,⟨#[]⟩,⟨#[47]⟩,[],(tkN L i).line,(tkN L i).col⟩ (i+1)
 else if (tkN L i).kind=6 then(match QKe L 6 QTi i with
  | .error e=>.error e
  | .ok j=>Qsu L ⟨1,⟨#[]⟩,⟨(38::(tkN L i).text).toArray⟩,[],(tkN L i).line,(tkN L i).col⟩ j)
 else if isK L i 7 [105,110,99,108,117,100,101]=true then Q7s L 6 3 [] (fun _=>true) i
 else if isK L i 7 [100,101,108,101,116,101,45,110,111,100,101]=true then Q7s L 5 6 [38] QTi i
 else .error (i,6)
def QTq:Nat→Nat→List Qrc→Rs (List Qrc)
 | 0,i,_=>.error (i,6)
 | n+1,i,acc=>
  if (tkN L i).kind=8 then .ok acc
  else(match Qnu L i with
   | .error e=>.error e
   | .ok (j,ds)=>QTq n j (acc++ds))
end
def QOt(l:List UInt8)(file:Int):List Qrc × (Int × Int × Int) × Int:=
 if (QZc l file).2.2≠0 then([],(QZc l file).2.1,(QZc l file).2.2)
 else match QTq (QZc l file).1 (QBf (QZc l file).1) 0 []with
  | .ok D=>(D,(0,0,0),0)
  | .error (k,c)=>([],(file,(tkN (QZc l file).1 k).line,(tkN (QZc l file).1 k).col),c)
end Go.Proofs.YtgaboghigefgbaaGreatDoor
