/- Contracts of tree: Property, depth, what Check asks of properties. | What Read of source computes, in plain Lean. | Contracts of tree: the limits that Check asks of properties. | Contracts of tree: named. | Contracts of bringupref03: level, limits. | Contracts of bringupref03: Property. | Contracts of bringupref03: names (the code is that of named of tree). | Contracts of tree: walked. -/
import Derived.Test.YtgaboghigefgbaaGreatDoorZ13
import Derived.Test.YtgaboghigefgbaaGreatDoorZ3
import Derived.Deep.LoopGhost
import Derived.IntWalk
import Derived.Test.YtgaboghigefgbaaGreatDoorZ11
import Derived.Test.YtgaboghigefgbaaGreatDoorZ12
import Derived.Laws.MakeOwn
import Derived.OwnWalk
set_option linter.all false
set_option maxHeartbeats 8000000
namespace Go.Proofs.YtgaboghigefgbaaGreatDoor
open Go.Lib (hid)
open Go.RowKit
theorem Qck(s:ByteArray)(a:Nat):(s.extract a s.size).data.toList=s.data.toList.drop a:=by
 simp[ByteArray.data_extract,Array.toList_extract,List.extract_eq_take_drop]
 try exact List.take_of_length_le (by simp)
theorem QXm(l:List UInt8)(b:UInt8):decide (0≤Lib.indexByte l b)=Qpf l b.toNat:=Q3f l b
theorem Q1e(a b:ByteArray)(h:a.size+b.size≤9223372036854775807):∃c:ByteArray,(∀wx,(Op.stringOp .add a b).run Tryz.prog wx = .ok (.string c) wx)∧c.size=a.size+b.size∧c.data.toList=a.data.toList++b.data.toList:=by
 refine⟨a++b,fun wx=>?_,by simp,by simp⟩
 simp only[Op.stringOp]
 rw[if_neg (by simp[IntKind.max,IntKind.signed,IntKind.bits];omega)]
 rfl
theorem QGc(s:ByteArray)(w:World)(hs:s.size≤9223372036854775807) :
 Calls Tryz.prog 97 #[.string s] w fun e w'=>e = .returned (.bool (Q6a s))∧w=w':=by
 have hH:=fun wx=>Tryz.strings_HasPrefix s ⟨#[35]⟩ wx
 have hF:=hid (show Q6a s=Qef s.data.toList from rfl)
 by_cases h:Lib.hasPrefix s.data.toList [35]=true
 ·have gU:=Lib.hasPrefix_le h
  simp only[List.length_cons,List.length_nil]at gU
  have ko:1≤s.size:=by simpa using gU
  have Gm:Lib.hasPrefix s.data.toList (⟨#[35]⟩:ByteArray).data.toList=true:=h
  rw[Gm]at hH
  have HH:=hid hH;clear hH Gm
  have hx:(s.extract 1 s.size).size=s.size-1:=by simp
  obtain⟨c,Gq,H7,eG⟩:=Q1e ⟨#[95]⟩ (s.extract 1 s.size) (by rw[show(⟨#[95]⟩:ByteArray).size=1 from rfl];omega)
  rw[show(⟨#[95]⟩:ByteArray).size=1 from rfl]at H7
  have gN:c.data.toList=95::s.data.toList.drop 1:=by rw[eG,Qck];rfl
  have hN:=fun wx=>Qac c wx (by unfold maxLen;omega)
  have hC:=fun wx=>Tryz.strings_Contains_one c 64 wx
  rw[QXm,gN]at hC
  rw[gN]at hN
  have HF:Hid (Q6a s=(Q0a (95::s.data.toList.drop 1) && !Qpf (95::s.data.toList.drop 1) 64)):=by show _=_;rw[hF.out];unfold Qef;rw[if_pos h]
  have HN:=hid hN;clear hN
  have HC:=hid hC;clear hC
  clear h hF eG gN gU
  cases hy:Q0a (95::s.data.toList.drop 1)with
  | true=>
   rw[hy]at HN HF
   clear hy
   go_enter Tryz.func97,Tryz.ntmps97
   go_wp2_with fail
   refine(HH.out _).mono ?_
   rintro e w' ⟨rfl,rfl⟩
   go_wp2_with fail
   refine(HN.out _).mono ?_
   rintro e w' ⟨rfl,rfl⟩
   go_wp2_with fail
   refine(HC.out _).mono ?_
   rintro e w' ⟨rfl,rfl⟩
   go_wp2_with fail
   go_ret
   exact⟨Qha (by rw[HF.out];simp),rfl⟩
  | false=>
   rw[hy]at HN HF
   clear hy
   go_enter Tryz.func97,Tryz.ntmps97
   go_wp2_with fail
   refine(HH.out _).mono ?_
   rintro e w' ⟨rfl,rfl⟩
   go_wp2_with fail
   refine(HN.out _).mono ?_
   rintro e w' ⟨rfl,rfl⟩
   go_wp2_with fail
   go_ret
   exact⟨Qha (by rw[HF.out];simp),rfl⟩
 ·have h:Lib.hasPrefix s.data.toList [35]=false:=by simpa using h
  have Gm:Lib.hasPrefix s.data.toList (⟨#[35]⟩:ByteArray).data.toList=false:=h
  rw[Gm]at hH
  have HH:=hid hH;clear hH Gm
  have hN:=fun wx=>Qac s wx (by unfold maxLen;omega)
  have hC:=fun wx=>Tryz.strings_Contains_one s 64 wx
  rw[QXm]at hC
  have HF:Hid (Q6a s=(Q0a s.data.toList && !Qpf s.data.toList 64)):=by show _=_;rw[hF.out];unfold Qef;rw[if_neg (by simp[h])]
  have HN:=hid hN;clear hN
  have HC:=hid hC;clear hC
  clear h hF
  cases hy:Q0a s.data.toList with
  | true=>
   rw[hy]at HN HF
   clear hy
   go_enter Tryz.func97,Tryz.ntmps97
   go_wp2_with fail
   refine(HH.out _).mono ?_
   rintro e w' ⟨rfl,rfl⟩
   go_wp2_with fail
   refine(HN.out _).mono ?_
   rintro e w' ⟨rfl,rfl⟩
   go_wp2_with fail
   refine(HC.out _).mono ?_
   rintro e w' ⟨rfl,rfl⟩
   go_wp2_with fail
   go_ret
   exact⟨Qha (by rw[HF.out];simp),rfl⟩
  | false=>
   rw[hy]at HN HF
   clear hy
   go_enter Tryz.func97,Tryz.ntmps97
   go_wp2_with fail
   refine(HH.out _).mono ?_
   rintro e w' ⟨rfl,rfl⟩
   go_wp2_with fail
   refine(HN.out _).mono ?_
   rintro e w' ⟨rfl,rfl⟩
   go_wp2_with fail
   go_ret
   exact⟨Qha (by rw[HF.out];simp),rfl⟩
theorem Q8i(R:Nat→Prop)(v:Value)(T:List Qba)(u:Int)(w:World)(hT:Qpa R w v T)(hn:QWa T=true)(hu:u<T.length)(M3:-1≤u)(hl:T.length≤1000) :
 Calls Tryz.prog 74 #[.agg #[v],.int .i64 u] w fun e w'=>e = .returned (.int .i64 (Q6b T T.length u))∧Below w.heap.size w w':=by
 obtain⟨a,cap,rfl,gM,gB⟩:=hT.shape
 have HT:=hid hT;clear hT
 have HN:=hid hn;clear hn
 go_enter Tryz.func74,Tryz.ntmps74
 go_wp2_with fail
 go_loopg [1,5] (u.toNat) (fun f x y wr=>∃(x':Int) (y':Nat),x = .int .i64 x'∧y = .int .i64 y'∧x'.toNat≤f∧-1≤x'∧x'<T.length∧y'+x'.toNat≤u.toNat∧Hid (Q6b T T.length u=y'+Q6b T T.length x')∧
  ∃n,wr=(w.alloc (.cells #[.slice a T.length cap] 27)).drewN n)
 case atStart=>exact⟨u,0,rfl,rfl,by omega,M3,hu,by omega,by show _=_;omega,0,rfl⟩
 case round=>
  obtain⟨x,y,rfl,rfl,hf,aK,jL,hy,hD,n,rfl⟩:=hrel
  by_cases h0:0<x
  ·obtain⟨k,rfl⟩:=Int.eq_ofNat_of_zero_le (show 0≤x by omega)
   have hk:k<T.length:=by omega
   obtain⟨g,o,pa,pc,rfl,hg,c0,c1,c2,hp,p1,p2,b0,b1,b2⟩:=HT.out.at k hk
   have Gv:=(QBc HN.out k hk).2 (by omega)
   have wV:Hid (Q6b T T.length u=(y+1:Nat)+Q6b T T.length T[k].parent):=by
    show _=_
    rw[hD.out]
    have e1:Q6b T T.length (k:Int)=Q6b T (T.length-1) (QTa T k)+1:=by
     obtain⟨m,hm⟩:∃m,T.length=m+1:=⟨T.length-1,by omega⟩
     rw[hm];simp only[Q6b];rw[if_pos h0];rfl
    rw[e1,Qsa hk,Qbk HN.out T.length T[k].parent (by omega) (by omega) (T.length-1) T.length (by omega) (by omega)]
    omega
   clear hp hD
   go_wp2_with fail
   go_roundg (gk-1)
   case measure=>omega
   case rel=>exact⟨T[k].parent,y+1,rfl,by go_num,by omega,by omega,by omega,by omega,wV,n,rfl⟩
  ·go_wp2_with fail
   go_ret
   refine⟨QUa ?_,QIa ((Below.refl _ _).alloc (Nat.le_refl _) _) n⟩
   have e1:Q6b T T.length x=0:=by cases lY:T.length with
    | zero=>rfl
    | succ m=>simp[Q6b,h0]
   rw[hD.out,e1];simp
structure Q4g where
 value:Int
 label:ByteArray
structure Qzf where
 kind:Int
 cells:List Q4g
 text:ByteArray
structure Qxc where
 kind:Int
 label:ByteArray
 name:ByteArray
 parts:List Qzf
 line:Int
 col:Int
abbrev Rs(α:Type):=Except (Nat × Int) α
section
variable(L:List Tok)
def tkN(i:Nat):Tok:=L.getD i ⟨8,[],0,0,0⟩
def txN(i:Nat):ByteArray:=⟨(tkN L i).text.toArray⟩
def isK(i:Nat)(kind:Int)(text:List UInt8):Bool:=decide ((tkN L i).kind=kind) && (text.isEmpty || decide ((tkN L i).text=text))
def Qbh(s:List UInt8)(i:Nat):Rs Nat:=if isK L i 4 s=true then .ok (i+1)else .error (i,6)
def QZc(kind:Int)(right:List UInt8→Bool)(i:Nat):Rs Nat:=if (tkN L i).kind=kind then(if right (tkN L i).text=true then .ok (i+1)else .error (i,1))else .error (i,6)
def QCg(i:Nat):Int × Int × Int:=QUj (evF (L.map tkX) .prim 0 i)
def QAh:Nat→Nat→List UInt8→Rs (Nat × List UInt8)
 | 0,i,_=>.error (i,6)
 | n+1,i,acc=>
  if isK L i 4 [93]=true then .ok (i+1,acc)
  else if (tkN L i).kind≠2 then .error (i,6)
  else if 255<(tkN L i).value then .error (i,2)
  else QAh n (i+1) (acc++[((tkN L i).value % 256).toNat.toUInt8])
def QSg:Nat→Nat→List Q4g→Rs (Nat × List Q4g)
 | 0,i,_=>.error (i,6)
 | n+1,i,acc=>
  if isK L i 4 [62]=true then .ok (i+1,acc)
  else if (tkN L i).kind=6 then(if Qtb (tkN L i).text=true then QSg n (i+1) (acc++[⟨0,txN L i⟩])else .error (i,1))
  else if (QCg L i).2.2≠0 then .error (i,(QCg L i).2.2)else QSg n (QCg L i).2.1.toNat (acc++[⟨(QCg L i).1,⟨#[]⟩⟩])
def Q0d:Nat:=L.length+1
def QYp(i:Nat):Rs (Nat × Qzf):=
 if (tkN L i).kind=3 then .ok (i+1,⟨2,[],txN L i⟩)
 else if (tkN L i).kind=6 then(if Qtb (tkN L i).text=true then .ok (i+1,⟨4,[],txN L i⟩)else .error (i,1))
 else if isK L i 4 [60]=true then(match QSg L (Q0d L) (i+1) []with
  | .ok (j,cs)=>.ok (j,⟨1,cs,⟨#[]⟩⟩)
  | .error e=>.error e)
 else if isK L i 4 [91]=true then(match QAh L (Q0d L) (i+1) []with
  | .ok (j,b)=>.ok (j,⟨3,[],⟨b.toArray⟩⟩)
  | .error e=>.error e)
 else .error (i,6)
def QKk:Nat→List UInt8→Nat→List Qzf→Rs (Nat × List Qzf)
 | 0,_,i,_=>.error (i,6)
 | n+1,sep,i,acc=>
  if isK L i 4 sep=true then(match QYp L (i+1)with
   | .ok (j,p)=>QKk n [44] j (acc++[p])
   | .error e=>.error e)
  else .ok (i,acc)
def Qzs(kind what:Int)(before:List UInt8)(right:List UInt8→Bool)(i:Nat):Rs (Nat × List Qxc):=
 match QZc L what right (i+1)with
 | .error e=>.error e
 | .ok j=>match Qbh L [59] j with
  | .error e=>.error e
  | .ok k=>.ok (k,[⟨kind,⟨#[]⟩,⟨(before++(tkN L (i+1)).text).toArray⟩,[],(tkN L i).line,(tkN L i).col⟩])
inductive Md where
 | body:Qxc→Nat→Md
 | mems:Nat→List Qxc→Md
 | member:Nat→Md
 | named:Nat→Md
def Qch:Nat→Md→Nat→Rs (Nat × List Qxc)
 | 0,_,i=>.error (i,6)
 | n+1,.body d dp,i=>
  if isK L i 4 [123]=true then(if 8<dp then .error (i,3)else Qch n (.mems dp [d]) (i+1))else .error (i,6)
 | n+1,.mems dp acc,i=>
  if isK L i 4 [125]=true then .ok (i+1,acc++[⟨2,⟨#[]⟩,⟨#[]⟩,[],(tkN L i).line,(tkN L i).col⟩])
  else(match Qch n (.member dp) i with
   | .error e=>.error e
   | .ok (j,ds)=>Qch n (.mems dp (acc++ds)) j)
 | n+1,.member dp,i=>
  if (tkN L i).kind=5 then(match QZc L 5 Qtb i with
   | .error e=>.error e
   | .ok j=>match QZc L 1 Q0a j with
    | .error e=>.error e
    | .ok k=>match Qch n (.body ⟨1,txN L i,txN L j,[],(tkN L i).line,(tkN L i).col⟩ (dp+1)) k with
     | .error e=>.error e
     | .ok (m,ds)=>match Qbh L [59] m with
      | .error e=>.error e
      | .ok q=>.ok (q,ds))
  else if (tkN L i).kind=1 then(match Qch n (.named dp) i with
   | .error e=>.error e
   | .ok (m,ds)=>match Qbh L [59] m with
    | .error e=>.error e
    | .ok q=>.ok (q,ds))
  else if isK L i 7 [100,101,108,101,116,101,45,112,114,111,112,101,114,116,121]=true then Qzs L 4 1 [] Qef i
  else if isK L i 7 [100,101,108,101,116,101,45,110,111,100,101]=true then Qzs L 5 1 [] Q0a i
  else .error (i,6)
 | n+1,.named dp,i=>
  if isK L (i+1) 4 [123]=true then
   (if Q0a (tkN L i).text=true then Qch n (.body ⟨1,⟨#[]⟩,txN L i,[],(tkN L i).line,(tkN L i).col⟩ (dp+1)) (i+1)else .error (i,1))
  else if Qef (tkN L i).text=true then(match QKk L (Q0d L) [61] (i+1) []with
   | .error e=>.error e
   | .ok (j,ps)=>.ok (j,[⟨3,⟨#[]⟩,txN L i,ps,(tkN L i).line,(tkN L i).col⟩]))
  else .error (i,1)
def QLl:Nat:=3*L.length+3
def Qju(d:Qxc)(i:Nat):Rs (Nat × List Qxc):=
 match Qch L (QLl L) (.body d 0) i with
 | .error e=>.error e
 | .ok (m,ds)=>match Qbh L [59] m with
  | .error e=>.error e
  | .ok q=>.ok (q,ds)
def Qcu(i:Nat):Rs (Nat × List Qxc):=
 if (tkN L i).kind=5 then(match QZc L 5 Qtb i with
  | .error e=>.error e
  | .ok j=>match Qbh L [47] j with
   | .error e=>.error e
   | .ok k=>Qju L ⟨1,txN L i,⟨#[47]⟩,[],(tkN L i).line,(tkN L i).col⟩ k)
 else if isK L i 4 [47]=true then Qju L ⟨1,⟨#[]⟩,⟨#[47]⟩,[],(tkN L i).line,(tkN L i).col⟩ (i+1)
 else if (tkN L i).kind=6 then(match QZc L 6 Qtb i with
  | .error e=>.error e
  | .ok j=>Qju L ⟨1,⟨#[]⟩,⟨(38::(tkN L i).text).toArray⟩,[],(tkN L i).line,(tkN L i).col⟩ j)
 else if isK L i 7 [105,110,99,108,117,100,101]=true then Qzs L 6 3 [] (fun _=>true) i
 else if isK L i 7 [100,101,108,101,116,101,45,110,111,100,101]=true then Qzs L 5 6 [38] Qtb i
 else .error (i,6)
def Qtq:Nat→Nat→List Qxc→Rs (List Qxc)
 | 0,i,_=>.error (i,6)
 | n+1,i,acc=>
  if (tkN L i).kind=8 then .ok acc
  else(match Qcu L i with
   | .error e=>.error e
   | .ok (j,ds)=>Qtq n j (acc++ds))
end
def Qut(l:List UInt8)(file:Int):List Qxc × (Int × Int × Int) × Int:=
 if (Qwd l file).2.2≠0 then([],(Qwd l file).2.1,(Qwd l file).2.2)
 else match Qtq (Qwd l file).1 (Q0d (Qwd l file).1) 0 []with
  | .ok D=>(D,(0,0,0),0)
  | .error (k,c)=>([],(file,(tkN (Qwd l file).1 k).line,(tkN (Qwd l file).1 k).col),c)
def Qwl(p:Qla):Bool:=decide (256<p.value.size)
theorem QZr(p:Qla)(w:World)(hs:p.value.size≤9223372036854775807) :
 Calls Tryz.prog 71 #[.agg #[.string p.name,.string p.value]] w fun e w'=>e = .returned (.bool (Qwl p))∧Below w.heap.size w w':=by
 go_enter Tryz.func71,Tryz.ntmps71
 go_wp2_with fail
 go_ret
 exact⟨Qha (by unfold Qwl;rw[Bool.eq_iff_iff];simp <;> omega),(Below.refl _ _).alloc (Nat.le_refl _) _⟩
theorem QCn:∀args w,(callFunc 71 args).run Tryz.prog w = .ok (.enter 71 args) w:=enters_of Tryz.func71 (by kernel_rfl) rfl
def QPq(p:Qla→Bool)(ps:List Qla)(w:World)(e:Ending)(w':World):Prop:=∃r:Int,e = .returned (.int .i64 r)∧decide (0≤r)=ps.any p∧Below w.heap.size w w'
theorem Q8h(R:Nat→Prop)(v:Value)(ps:List Qla)(w:World)(hP:QGa R w v ps) :
 Calls Tryz.prog 105 #[v,.func (.func 71) #[] #[]] w (QPq Qwl ps w):=by
 obtain⟨a,cap,rfl,gM,gB⟩:=hP.shape
 have HP:=hid hP;clear hP
 have eg:=QCn
 go_enter Tryz.func105,Tryz.ntmps105
 go_wp2_with fail
 go_loopg [8] (ps.length) (fun f x wr=>∃k:Nat,x = .int .i64 k∧k≤ps.length∧ps.length≤k+f∧Hid ((ps.take k).any Qwl=false)∧Below w.heap.size w wr)
 case atStart=>exact⟨0,rfl,by omega,by omega,by simp[Hid],Below.refl _ _⟩
 case round=>
  obtain⟨k,rfl,hk,hf,hN,hb⟩:=hrel
  by_cases Hh:k<ps.length
  ·obtain⟨g,o,rfl,hg,c0,c1,b0,b1⟩:=(HP.out.new hb).at k Hh
   have G0:=fun wx=>QZr ps[k] wx b1
   have zv:=hid (show(ps.take (k+1)).any Qwl=(Qwl ps[k] || false)from by rw[List.take_succ_eq_append_getElem Hh,List.any_append,hN.out];simp)
   have Gh:=hid (show Qwl ps[k]=true→ps.any Qwl=true from fun h=>List.any_eq_true.2 ⟨_,List.getElem_mem Hh,h⟩)
   have H3:=hb.size
   generalize Qwl ps[k]=y at G0 zv Gh
   have HB:=hid G0;clear G0
   cases y with
   | true=>
    have HA:=hid (Gh.out rfl);clear Gh zv
    go_wp2_with fail
    refine(HB.out _).mono ?_
    rintro e w' ⟨rfl,hb'⟩
    go_wp2_with fail
    go_ret
    exact⟨k,rfl,by rw[HA.out];simp,hb.trans (hb'.mono H3)⟩
   | false=>
    clear Gh
    go_wp2_with fail
    refine(HB.out _).mono ?_
    rintro e w' ⟨rfl,hb'⟩
    go_wp2_with fail
    go_roundg (gk-1)
    case measure=>omega
    case rel=>exact⟨k+1,by go_num,by omega,by omega,zv.out,hb.trans (hb'.mono H3)⟩
  ·go_wp2_with fail
   go_ret
   refine⟨-1,rfl,?_,hb⟩
   have:=hN.out
   rw[List.take_of_length_le (by omega)]at this
   rw[this];rfl
theorem QHd(R:Nat→Prop)(v:Value)(ps:List Qla)(w:World)(hP:QGa R w v ps) :
 Calls Tryz.prog 70 #[v,.func (.func 71) #[] #[]] w fun e w'=>e = .returned (.bool (ps.any Qwl))∧Below w.heap.size w w':=by
 obtain⟨a,cap,rfl,gM,gB⟩:=hP.shape
 go_enter Tryz.func70,Tryz.ntmps70
 go_wp2_with fail
 refine(Q8h R _ ps _ hP).mono ?_
 rintro e w' ⟨r,rfl,hr,hb⟩
 have HR:=hid hr;clear hr
 go_wp2_with fail
 go_ret
 exact⟨Qha (by rw[←HR.out]),hb⟩
theorem QRi(i:Nat)(n:Qba) :
 (((i:Int) == 0)=true∧decide (0<i)=false∧(n.parent != -1)=false∧n.name.toList=[]∧Qud i n=true)∨
 (((i:Int) == 0)=true∧decide (0<i)=false∧(n.parent != -1)=true∧Qud i n=false)∨
 (((i:Int) == 0)=true∧decide (0<i)=false∧(n.parent != -1)=false∧¬n.name.toList=[]∧n.name.toList.isEmpty=false∧Qud i n=false)∨
 (((i:Int) == 0)=false∧decide (0<i)=true∧n.parent<0∧Qud i n=false)∨
 (((i:Int) == 0)=false∧decide (0<i)=true∧0≤n.parent∧(i:Int)≤n.parent∧Qud i n=false)∨
 (((i:Int) == 0)=false∧decide (0<i)=true∧0≤n.parent∧n.parent<i∧Q0a n.name.data.toList=true∧Qud i n=true)∨
 (((i:Int) == 0)=false∧decide (0<i)=true∧0≤n.parent∧n.parent<i∧Q0a n.name.data.toList=false∧Qud i n=false):=by
 have C1:eqS n.name ByteArray.empty=decide (n.name.toList=[]):=by
  unfold eqS
  rw[show ByteArray.empty.toList=[]from by rw[ByteArray.toList_eq];rfl,Bool.eq_iff_iff]
  simp
 unfold Qud
 by_cases h0:i=0
 ·subst h0
  simp only[if_true,C1]
  by_cases h1:n.parent = -1
  ·by_cases h2:n.name.toList=[]
   ·left;simp[h1,h2]
   ·right;right;left;simp[h1,h2]
  ·right;left;simp[h1]
 ·have e1:((i:Int) == 0)=false:=by simp;omega
  have e2:decide (0<i)=true:=by simp;omega
  simp only[if_neg h0,e1,e2]
  by_cases h1:n.parent<0
  ·right;right;right;left;simp[h1];omega
  ·by_cases h2:(i:Int)≤n.parent
   ·right;right;right;right;left;simp;omega
   ·cases h3:Q0a n.name.data.toList
    ·right;right;right;right;right;right;simp;omega
    ·right;right;right;right;right;left;simp;omega
theorem Q9i(R:Nat→Prop)(v:Value)(T:List Qba)(w:World)(hT:Qpa R w v T) :
 Calls Tryz.prog 72 #[.agg #[v]] w fun e w'=>e = .returned (.bool (QWa T))∧Below w.heap.size w w':=by
 obtain⟨a,cap,rfl,gM,gB⟩:=hT.shape
 have HT:=hid hT;clear hT
 go_enter Tryz.func72,Tryz.ntmps72
 go_wp2_with fail
 go_loopg [10] (T.length) (fun f x wr=>∃k:Nat,x = .int .i64 k∧k≤T.length∧T.length≤k+f∧Hid (QWa T=QEd k (T.drop k))∧Below w.heap.size w wr)
 case atStart=>exact⟨0,rfl,by omega,by omega,by simp[Hid,QWa],(Below.refl _ _).alloc (Nat.le_refl _) _⟩
 case round=>
  obtain⟨go,rfl⟩:∃x:Nat,x=gk:=⟨_,rfl⟩
  obtain⟨k,rfl,hk,hf,hN,hb⟩:=hrel
  have H3:=hb.size
  by_cases Hh:k<T.length
  ·obtain⟨g,o,pa,pc,rfl,hg,c0,c1,c2,hp,p1,p2,b0,b1,b2⟩:=(HT.out.new hb).at k Hh
   have jz:=hid hp
   clear hp
   have Hk:=hid (show QEd k (T.drop k)=(Qud k T[k] && (T[k].props.all fun p=>Q6a p.name) && QEd (k+1) (T.drop (k+1)))from by rw[List.drop_eq_getElem_cons Hh];rfl)
   have kY:=QRi k T[k]
   rcases kY with kY|kY|kY|kY|kY|kY|kY
   ·obtain⟨GF,gz,q1,q2,hh⟩:=kY
    have Gm:=hid hh;clear hh
    go_wp2_with fail
    go_loopg [51] (T[k].props.length) (fun f x wx=>∃j:Nat,x = .int .i64 j∧j≤T[k].props.length∧T[k].props.length≤j+f∧Hid (T[k].props.all (fun p=>Q6a p.name)=(T[k].props.drop j).all (fun p=>Q6a p.name))∧Below wr.heap.size wr wx)
    case atStart=>exact⟨0,rfl,by omega,by omega,by simp[Hid],(Below.refl _ _).alloc (Nat.le_refl _) _⟩
    case round=>
     obtain⟨j,rfl,hj,Jv,hA,Hc⟩:=hrel
     have Hi:=hb.trans (Hc.mono H3)
     have mZ:=Hi.size
     by_cases Gd:j<T[k].props.length
     ·obtain⟨gp,op,rfl,pF,d0,d1,e0,e1⟩:=(jz.out.new Hc).at j Gd
      have KC:=fun wx=>QGc (T[k].props[j]).name wx e0
      have gH:=hid (show(T[k].props.drop j).all (fun p=>Q6a p.name)=(Q6a (T[k].props[j]).name && (T[k].props.drop (j+1)).all (fun p=>Q6a p.name))from by rw[List.drop_eq_getElem_cons Gd];rfl)
      generalize Q6a (T[k].props[j]).name=y at KC gH
      have HB:=hid KC;clear KC
      cases y with
      | true=>
       go_wp2_with fail
       refine(HB.out _).mono ?_
       rintro e w' ⟨rfl,rfl⟩
       go_wp2_with fail
       go_roundg (gk-1)
       case measure=>omega
       case rel=>exact⟨j+1,by go_num,by omega,by omega,by show _=_;rw[hA.out,gH.out,Bool.true_and],Hc.alloc Hc.size _⟩
      | false=>
       go_wp2_with fail
       refine(HB.out _).mono ?_
       rintro e w' ⟨rfl,rfl⟩
       go_wp2_with fail
       go_ret
       exact⟨Qha (by rw[hN.out,Hk.out,hA.out,gH.out];simp),Hi.alloc mZ _⟩
     ·go_wp2_with fail
      go_roundg (go-1)
      case measure=>omega
      case rel=>exact⟨k+1,by go_num,by omega,by omega,by show _=_;rw[hN.out,Hk.out,hA.out,List.drop_eq_nil_of_le (by omega),Gm.out];simp,Hi⟩
   ·obtain⟨GF,gz,q1,hh⟩:=kY
    have Gm:=hid hh;clear hh
    go_wp2_with fail
    go_ret
    exact⟨Qha (by rw[hN.out,Hk.out,Gm.out];simp),hb.alloc H3 _⟩
   ·obtain⟨GF,gz,q1,q2,q3,hh⟩:=kY
    have Gm:=hid hh;clear hh
    go_wp2_with fail
    go_ret
    exact⟨Qha (by rw[hN.out,Hk.out,Gm.out];simp),hb.alloc H3 _⟩
   ·obtain⟨GF,gz,q1,hh⟩:=kY
    have Gm:=hid hh;clear hh
    go_wp2_with fail
    go_ret
    exact⟨Qha (by rw[hN.out,Hk.out,Gm.out];simp),hb.alloc H3 _⟩
   ·obtain⟨GF,gz,q1,q2,hh⟩:=kY
    have Gm:=hid hh;clear hh
    go_wp2_with fail
    go_ret
    exact⟨Qha (by rw[hN.out,Hk.out,Gm.out];simp),hb.alloc H3 _⟩
   ·obtain⟨GF,gz,q1,q2,hn,hh⟩:=kY
    have Gm:=hid hh;clear hh
    have Hv:=fun wx=>Qac T[k].name wx (by unfold maxLen;omega)
    rw[hn]at Hv
    have Kd:=hid Hv;clear Hv hn
    go_wp2_with fail
    refine(Kd.out _).mono ?_
    rintro e w' ⟨rfl,rfl⟩
    go_wp2_with fail
    go_loopg [51] (T[k].props.length) (fun f x wx=>∃j:Nat,x = .int .i64 j∧j≤T[k].props.length∧T[k].props.length≤j+f∧Hid (T[k].props.all (fun p=>Q6a p.name)=(T[k].props.drop j).all (fun p=>Q6a p.name))∧Below wr.heap.size wr wx)
    case atStart=>exact⟨0,rfl,by omega,by omega,by simp[Hid],(Below.refl _ _).alloc (Nat.le_refl _) _⟩
    case round=>
     obtain⟨j,rfl,hj,Jv,hA,Hc⟩:=hrel
     have Hi:=hb.trans (Hc.mono H3)
     have mZ:=Hi.size
     by_cases Gd:j<T[k].props.length
     ·obtain⟨gp,op,rfl,pF,d0,d1,e0,e1⟩:=(jz.out.new Hc).at j Gd
      have KC:=fun wx=>QGc (T[k].props[j]).name wx e0
      have gH:=hid (show(T[k].props.drop j).all (fun p=>Q6a p.name)=(Q6a (T[k].props[j]).name && (T[k].props.drop (j+1)).all (fun p=>Q6a p.name))from by rw[List.drop_eq_getElem_cons Gd];rfl)
      generalize Q6a (T[k].props[j]).name=y at KC gH
      have HB:=hid KC;clear KC
      cases y with
      | true=>
       go_wp2_with fail
       refine(HB.out _).mono ?_
       rintro e w' ⟨rfl,rfl⟩
       go_wp2_with fail
       go_roundg (gk-1)
       case measure=>omega
       case rel=>exact⟨j+1,by go_num,by omega,by omega,by show _=_;rw[hA.out,gH.out,Bool.true_and],Hc.alloc Hc.size _⟩
      | false=>
       go_wp2_with fail
       refine(HB.out _).mono ?_
       rintro e w' ⟨rfl,rfl⟩
       go_wp2_with fail
       go_ret
       exact⟨Qha (by rw[hN.out,Hk.out,hA.out,gH.out];simp),Hi.alloc mZ _⟩
     ·go_wp2_with fail
      go_roundg (go-1)
      case measure=>omega
      case rel=>exact⟨k+1,by go_num,by omega,by omega,by show _=_;rw[hN.out,Hk.out,hA.out,List.drop_eq_nil_of_le (by omega),Gm.out];simp,Hi⟩
   ·obtain⟨GF,gz,q1,q2,hn,hh⟩:=kY
    have Gm:=hid hh;clear hh
    have Hv:=fun wx=>Qac T[k].name wx (by unfold maxLen;omega)
    rw[hn]at Hv
    have Kd:=hid Hv;clear Hv hn
    go_wp2_with fail
    refine(Kd.out _).mono ?_
    rintro e w' ⟨rfl,rfl⟩
    go_wp2_with fail
    go_ret
    exact⟨Qha (by rw[hN.out,Hk.out,Gm.out];simp),hb.alloc H3 _⟩
  ·go_wp2_with fail
   go_ret
   exact⟨Qha (by rw[hN.out,List.drop_eq_nil_of_le (by omega)];rfl),hb⟩
theorem Q1i(R:Nat→Prop)(v:Value)(T:List Qba)(u:Int)(w:World)(hT:Qpa R w v T)(hn:QWa T=true)(hu:u<T.length)(M3:-1≤u)(hl:T.length≤1000) :
 Calls Tryz.prog 91 #[.agg #[v],.int .i64 u] w fun e w'=>e = .returned (.int .i64 (Q6b T T.length u))∧Below w.heap.size w w':=by
 obtain⟨a,cap,rfl,gM,gB⟩:=hT.shape
 have HT:=hid hT;clear hT
 have HN:=hid hn;clear hn
 go_enter Tryz.func91,Tryz.ntmps91
 go_wp2_with fail
 go_loopg [1,5] (u.toNat) (fun f x y wr=>∃(x':Int) (y':Nat),x = .int .i64 x'∧y = .int .i64 y'∧x'.toNat≤f∧-1≤x'∧x'<T.length∧y'+x'.toNat≤u.toNat∧Hid (Q6b T T.length u=y'+Q6b T T.length x')∧
  ∃n,wr=(w.alloc (.cells #[.slice a T.length cap] 27)).drewN n)
 case atStart=>exact⟨u,0,rfl,rfl,by omega,M3,hu,by omega,by show _=_;omega,0,rfl⟩
 case round=>
  obtain⟨x,y,rfl,rfl,hf,aK,jL,hy,hD,n,rfl⟩:=hrel
  by_cases h0:0<x
  ·obtain⟨k,rfl⟩:=Int.eq_ofNat_of_zero_le (show 0≤x by omega)
   have hk:k<T.length:=by omega
   obtain⟨g,o,pa,pc,rfl,hg,c0,c1,c2,hp,p1,p2,b0,b1,b2⟩:=HT.out.at k hk
   have Gv:=(QBc HN.out k hk).2 (by omega)
   have wV:Hid (Q6b T T.length u=(y+1:Nat)+Q6b T T.length T[k].parent):=by
    show _=_
    rw[hD.out]
    have e1:Q6b T T.length (k:Int)=Q6b T (T.length-1) (QTa T k)+1:=by
     obtain⟨m,hm⟩:∃m,T.length=m+1:=⟨T.length-1,by omega⟩
     rw[hm];simp only[Q6b];rw[if_pos h0];rfl
    rw[e1,Qsa hk,Qbk HN.out T.length T[k].parent (by omega) (by omega) (T.length-1) T.length (by omega) (by omega)]
    omega
   clear hp hD
   go_wp2_with fail
   go_roundg (gk-1)
   case measure=>omega
   case rel=>exact⟨T[k].parent,y+1,rfl,by go_num,by omega,by omega,by omega,by omega,wV,n,rfl⟩
  ·go_wp2_with fail
   go_ret
   refine⟨QUa ?_,QIa ((Below.refl _ _).alloc (Nat.le_refl _) _) n⟩
   have e1:Q6b T T.length x=0:=by cases lY:T.length with
    | zero=>rfl
    | succ m=>simp[Q6b,h0]
   rw[hD.out,e1];simp
def Q3r(p:Qla):Bool:=decide (p.value.size≤256)
theorem QOh(n:Qba):QGf n=(decide (n.props.length≤24) && n.props.all Q3r):=rfl
theorem QUi{T:List Qba}(h:T.length=0∨120<T.length):Qza T=false:=by
 unfold Qza;rw[decide_eq_false (by omega)];rfl
theorem Qdi(R:Nat→Prop)(v:Value)(T:List Qba)(w:World)(hT:Qpa R w v T) :
 Calls Tryz.prog 67 #[.agg #[v]] w fun e w'=>e = .returned (.bool (!Qza T))∧Below w.heap.size w w':=by
 obtain⟨a,cap,rfl,gM,gB⟩:=hT.shape
 have HT:=hid hT;clear hT
 by_cases hl:1≤T.length∧T.length≤120
 ·obtain⟨GO,Ge⟩:=hl
  have hL:=hid (show Qza T=T.all QGf from by unfold Qza;rw[decide_eq_true ⟨GO,Ge⟩,Bool.true_and])
  go_enter Tryz.func67,Tryz.ntmps67
  go_wp2_with fail
  go_loopg [20] (T.length) (fun f x wr=>∃k:Nat,x = .int .i64 k∧k≤T.length∧T.length≤k+f∧Hid (T.all QGf=(T.drop k).all QGf)∧Below w.heap.size w wr)
  case atStart=>exact⟨0,rfl,by omega,by omega,by simp[Hid],(Below.refl _ _).alloc (Nat.le_refl _) _⟩
  case round=>
   obtain⟨go,rfl⟩:∃x:Nat,x=gk:=⟨_,rfl⟩
   obtain⟨wo,rfl⟩:∃x:World,x=wr:=⟨_,rfl⟩
   obtain⟨k,rfl,hk,hf,hN,hb⟩:=hrel
   have H3:=hb.size
   by_cases Hh:k<T.length
   ·obtain⟨g,o,pa,pc,rfl,hg,c0,c1,c2,hp,p1,p2,b0,b1,b2⟩:=(HT.out.new hb).at k Hh
    have jz:=hid hp
    clear hp
    have Hk:=hid (show(T.drop k).all QGf=(QGf T[k] && (T.drop (k+1)).all QGf)from by rw[List.drop_eq_getElem_cons Hh];rfl)
    by_cases Jn:T[k].props.length≤24
    ·have u5:=hid (show QGf T[k]=T[k].props.all Q3r from by rw[QOh,decide_eq_true Jn,Bool.true_and])
     go_wp2_with fail
     go_loopg [31] (T[k].props.length) (fun f x wx=>∃j:Nat,x = .int .i64 j∧j≤T[k].props.length∧T[k].props.length≤j+f∧Hid (T[k].props.all Q3r=(T[k].props.drop j).all Q3r)∧Below wo.heap.size wo wx)
     case atStart=>exact⟨0,rfl,by omega,by omega,by simp[Hid],(Below.refl _ _).alloc (Nat.le_refl _) _⟩
     case round=>
      obtain⟨j,rfl,hj,Jv,hA,Hc⟩:=hrel
      have Hi:=hb.trans (Hc.mono H3)
      have mZ:=Hi.size
      by_cases Gd:j<T[k].props.length
      ·obtain⟨gp,op,rfl,pF,d0,d1,e0,e1⟩:=(jz.out.new Hc).at j Gd
       have gH:=hid (show(T[k].props.drop j).all Q3r=(Q3r T[k].props[j] && (T[k].props.drop (j+1)).all Q3r)from by rw[List.drop_eq_getElem_cons Gd];rfl)
       by_cases hv:T[k].props[j].value.size≤256
       ·have n7:=hid (show Q3r T[k].props[j]=true from decide_eq_true hv)
        go_wp2_with fail
        go_roundg (gk-1)
        case measure=>omega
        case rel=>exact⟨j+1,by go_num,by omega,by omega,by show _=_;rw[hA.out,gH.out,n7.out,Bool.true_and],Hc.alloc Hc.size _⟩
       ·have n7:=hid (show Q3r T[k].props[j]=false from decide_eq_false hv)
        have hv':256<T[k].props[j].value.size:=by omega
        clear hv
        go_wp2_with fail
        go_ret
        exact⟨Qha (by rw[hL.out,hN.out,Hk.out,u5.out,hA.out,gH.out,n7.out];simp),Hi.alloc mZ _⟩
      ·go_wp2_with fail
       go_roundg (go-1)
       case measure=>omega
       case rel=>exact⟨k+1,by go_num,by omega,by omega,by show _=_;rw[hN.out,Hk.out,u5.out,hA.out,List.drop_eq_nil_of_le (by omega)];simp,Hi⟩
    ·have u5:=hid (show QGf T[k]=false from by rw[QOh,decide_eq_false Jn,Bool.false_and])
     have dL:24<T[k].props.length:=by omega
     clear Jn
     go_wp2_with fail
     go_ret
     exact⟨Qha (by rw[hL.out,hN.out,Hk.out,u5.out];simp),hb.alloc H3 _⟩
   ·go_wp2_with fail
    go_ret
    exact⟨Qha (by rw[hL.out,hN.out,List.drop_eq_nil_of_le (by omega)];rfl),hb⟩
 ·have H7:T.length=0∨(T.length≠0∧120<T.length):=by omega
  rcases H7 with h|⟨h,h'⟩
  ·have hL:=hid (QUi (.inl h))
   have h1:((T.length:Int)<1):=by omega
   clear hl
   go_enter Tryz.func67,Tryz.ntmps67
   go_wp2_with fail
   go_ret
   exact⟨Qha (by rw[hL.out];rfl),(Below.refl _ _).alloc (Nat.le_refl _) _⟩
  ·have hL:=hid (QUi (.inr h'))
   have h1:1≤T.length:=by omega
   clear hl h
   go_enter Tryz.func67,Tryz.ntmps67
   go_wp2_with fail
   go_ret
   exact⟨Qha (by rw[hL.out];rfl),(Below.refl _ _).alloc (Nat.le_refl _) _⟩
theorem QKp(r:List UInt8):Q0a (97::r)=Q0a (95::r):=by
 unfold Q0a
 simp[QIe,show QHa 97=true from by decide,show QYb 97=true from by decide,show QYb 95=true from by decide,show QHa 95=false from by decide]
theorem Q7h(r:List UInt8):Qef (35::r)=(Q0a (97::r) && !Qpf r 64):=by
 unfold Qef
 rw[if_pos (by simp[Lib.hasPrefix]),QKp]
 simp[Qpf]
theorem QDg(c:UInt8)(r:List UInt8)(h:c.toNat≠35):Qef (c::r)=(Q0a (c::r) && !Qpf (c::r) 64):=by
 unfold Qef
 rw[if_neg (by simp[Lib.hasPrefix];intro e;exact h (by rw[←e];rfl))]
theorem QDr(l:List UInt8)(h:¬(1≤l.length∧l.length≤31)):Qef l=false:=by
 cases l with
 | nil=>rfl
 | cons c r=>
  by_cases hc:c.toNat=35
  ·have:c=35:=UInt8.toNat_inj.1 hc
   subst this
   rw[Q7h];unfold Q0a
   rw[show decide (1≤(97::r:List UInt8).length∧(97::r:List UInt8).length≤31)=false from by simpa using h];rfl
  ·rw[QDg c r hc];unfold Q0a
   rw[decide_eq_false h];rfl
theorem Q8s(l:List UInt8)(h:Qpf l 64=true):Qef l=false:=by
 cases l with
 | nil=>rfl
 | cons c r=>
  by_cases hc:c.toNat=35
  ·have:c=35:=UInt8.toNat_inj.1 hc
   subst this
   rw[Q7h,show Qpf r 64=true from by simpa[Qpf]using h];simp
  ·rw[QDg c r hc,h];simp
theorem Qwe(s:ByteArray)(w:World)(hs:s.size≤9223372036854775807) :
 Calls Tryz.prog 64 #[.string s] w fun e w'=>e = .returned (.bool (Q6a s))∧w=w':=by
 by_cases hl:1≤s.size∧s.size≤31
 ·obtain⟨h1,h2⟩:=hl
  go_enter Tryz.func64,Tryz.ntmps64
  go_wp2_with fail
  go_loop [3] (fun i=>∃k:Nat,k≤s.size∧i = .int .i64 k∧Hid (Qpf s.data.toList 64=Qpf (s.data.toList.drop k) 64)) (fun i=>s.size-(intOf i).toNat)
  case atStart=>exact⟨0,Nat.zero_le _,rfl,rfl⟩
  case round=>
   obtain⟨k,hk,rfl,hB⟩:=hrel
   by_cases Hh:k<s.size
   ·have hD:=hid (QCb s k Hh)
    by_cases h64:s[k].toNat=64
    ·have hP:=hid (show Q6a s=false from Q8s _ (by rw[hB.out,hD.out,QNe,h64];rfl))
     have wQ:((s[k].toNat:Int) == 64)=true:=by simp[h64]
     clear h64
     go_wp2_with fail
     go_ret
     exact⟨Qha (by rw[hP.out]),rfl⟩
    ·have wQ:((s[k].toNat:Int) == 64)=false:=by simp;omega
     have hS:=hid (show Qpf s.data.toList 64=Qpf (s.data.toList.drop (k+1)) 64 from by
      rw[hB.out,hD.out,QNe,show decide (((s[k].toNat:Nat):Int)=64)=false from by simp;omega];rfl)
     clear h64
     go_wp2_with fail
     go_round
     case rel=>exact⟨k+1,by omega,by go_num,hS⟩
     case measure=>simp[intOf];omega
   ·have hM:=hid (show Qpf s.data.toList 64=false from by rw[hB.out,QOc s k (by omega)];rfl)
    have hD:=hid (show s.data.toList=s[0]::s.data.toList.drop 1 from by have:=QCb s 0 h1;rw[List.drop_zero]at this;exact this)
    clear hB hk
    by_cases h35:s[0].toNat=35
    ·have wH:((s[0].toNat:Int) == 35)=true:=by simp[h35]
     have hP:=hid (show Q6a s=Q0a (97::s.data.toList.drop 1)from by
      have GZ:=hM.out
      unfold Q6a
      rw[hD.out]at GZ ⊢
      rw[QNe]at GZ
      have e:s[0]=35:=UInt8.toNat_inj.1 h35
      rw[e]at GZ ⊢
      rw[Q7h]
      simp at GZ
      simp[GZ])
     by_cases Ma:s.size=1
     ·have tK:((s.size:Int) == 1)=true:=by simp;omega
      have Kf:=hid (show Q6a s=true from by rw[hP.out,List.drop_eq_nil_of_le (by simp;omega)];decide)
      clear h35 Ma
      go_wp2_with fail
      go_ret
      exact⟨Qha (by rw[Kf.out]),rfl⟩
     ·have tK:((s.size:Int) == 1)=false:=by simp;omega
      obtain⟨c,Gq,H7,eG⟩:=Q1e ⟨#[97]⟩ (s.extract 1 s.size) (by rw[show(⟨#[97]⟩:ByteArray).size=1 from rfl];simp;omega)
      have uY:c.size≤maxLen:=by rw[H7,show(⟨#[97]⟩:ByteArray).size=1 from rfl];simp;unfold maxLen;omega
      have Hv:=hid (Qhg c · uY)
      have Kf:=hid (show Q0a c.data.toList=Q6a s from by rw[hP.out,eG,Qck];rfl)
      clear h35 Ma H7 eG uY
      go_wp2_with fail
      refine(Hv.out _).mono ?_
      rintro e w' ⟨rfl,rfl⟩
      go_wp2_with fail
      go_ret
      exact⟨Qha Kf.out,rfl⟩
    ·have wH:((s[0].toNat:Int) == 35)=false:=by simp;omega
     have hP:=hid (show Q0a s.data.toList=Q6a s from by
      have GZ:=hM.out
      unfold Q6a
      rw[hD.out]at GZ ⊢
      rw[QDg _ _ h35,GZ];simp)
     clear h35
     go_wp2_with fail
     refine(Qhg s _ (by unfold maxLen;omega)).mono ?_
     rintro e w' ⟨rfl,rfl⟩
     go_wp2_with fail
     go_ret
     exact⟨Qha hP.out,rfl⟩
 ·have hP:=hid (show Q6a s=false from QDr _ (by simpa using hl))
  have H7:(s.size:Int)<1∨(1≤(s.size:Int)∧31<(s.size:Int)):=by omega
  clear hl
  rcases H7 with h|⟨h,h'⟩
  all_goals
   go_enter Tryz.func64,Tryz.ntmps64
   go_wp2_with fail
   go_ret
   exact⟨Qha (by rw[hP.out]),rfl⟩
theorem Qjo(R:Nat→Prop)(v:Value)(T:List Qba)(w:World)(hT:Qpa R w v T) :
 Calls Tryz.prog 89 #[.agg #[v]] w fun e w'=>e = .returned (.bool (QWa T))∧Below w.heap.size w w':=by
 obtain⟨a,cap,rfl,gM,gB⟩:=hT.shape
 have HT:=hid hT;clear hT
 go_enter Tryz.func89,Tryz.ntmps89
 go_wp2_with fail
 go_loopg [10] (T.length) (fun f x wr=>∃k:Nat,x = .int .i64 k∧k≤T.length∧T.length≤k+f∧Hid (QWa T=QEd k (T.drop k))∧Below w.heap.size w wr)
 case atStart=>exact⟨0,rfl,by omega,by omega,by simp[Hid,QWa],(Below.refl _ _).alloc (Nat.le_refl _) _⟩
 case round=>
  obtain⟨go,rfl⟩:∃x:Nat,x=gk:=⟨_,rfl⟩
  obtain⟨k,rfl,hk,hf,hN,hb⟩:=hrel
  have H3:=hb.size
  by_cases Hh:k<T.length
  ·obtain⟨g,o,pa,pc,rfl,hg,c0,c1,c2,hp,p1,p2,b0,b1,b2⟩:=(HT.out.new hb).at k Hh
   have jz:=hid hp
   clear hp
   have Hk:=hid (show QEd k (T.drop k)=(Qud k T[k] && (T[k].props.all fun p=>Q6a p.name) && QEd (k+1) (T.drop (k+1)))from by rw[List.drop_eq_getElem_cons Hh];rfl)
   have kY:=QRi k T[k]
   rcases kY with kY|kY|kY|kY|kY|kY|kY
   ·obtain⟨GF,gz,q1,q2,hh⟩:=kY
    have Gm:=hid hh;clear hh
    go_wp2_with fail
    go_loopg [51] (T[k].props.length) (fun f x wx=>∃j:Nat,x = .int .i64 j∧j≤T[k].props.length∧T[k].props.length≤j+f∧Hid (T[k].props.all (fun p=>Q6a p.name)=(T[k].props.drop j).all (fun p=>Q6a p.name))∧Below wr.heap.size wr wx)
    case atStart=>exact⟨0,rfl,by omega,by omega,by simp[Hid],(Below.refl _ _).alloc (Nat.le_refl _) _⟩
    case round=>
     obtain⟨j,rfl,hj,Jv,hA,Hc⟩:=hrel
     have Hi:=hb.trans (Hc.mono H3)
     have mZ:=Hi.size
     by_cases Gd:j<T[k].props.length
     ·obtain⟨gp,op,rfl,pF,d0,d1,e0,e1⟩:=(jz.out.new Hc).at j Gd
      have KC:=fun wx=>Qwe (T[k].props[j]).name wx e0
      have gH:=hid (show(T[k].props.drop j).all (fun p=>Q6a p.name)=(Q6a (T[k].props[j]).name && (T[k].props.drop (j+1)).all (fun p=>Q6a p.name))from by rw[List.drop_eq_getElem_cons Gd];rfl)
      generalize Q6a (T[k].props[j]).name=y at KC gH
      have HB:=hid KC;clear KC
      cases y with
      | true=>
       go_wp2_with fail
       refine(HB.out _).mono ?_
       rintro e w' ⟨rfl,rfl⟩
       go_wp2_with fail
       go_roundg (gk-1)
       case measure=>omega
       case rel=>exact⟨j+1,by go_num,by omega,by omega,by show _=_;rw[hA.out,gH.out,Bool.true_and],Hc.alloc Hc.size _⟩
      | false=>
       go_wp2_with fail
       refine(HB.out _).mono ?_
       rintro e w' ⟨rfl,rfl⟩
       go_wp2_with fail
       go_ret
       exact⟨Qha (by rw[hN.out,Hk.out,hA.out,gH.out];simp),Hi.alloc mZ _⟩
     ·go_wp2_with fail
      go_roundg (go-1)
      case measure=>omega
      case rel=>exact⟨k+1,by go_num,by omega,by omega,by show _=_;rw[hN.out,Hk.out,hA.out,List.drop_eq_nil_of_le (by omega),Gm.out];simp,Hi⟩
   ·obtain⟨GF,gz,q1,hh⟩:=kY
    have Gm:=hid hh;clear hh
    go_wp2_with fail
    go_ret
    exact⟨Qha (by rw[hN.out,Hk.out,Gm.out];simp),hb.alloc H3 _⟩
   ·obtain⟨GF,gz,q1,q2,q3,hh⟩:=kY
    have Gm:=hid hh;clear hh
    go_wp2_with fail
    go_ret
    exact⟨Qha (by rw[hN.out,Hk.out,Gm.out];simp),hb.alloc H3 _⟩
   ·obtain⟨GF,gz,q1,hh⟩:=kY
    have Gm:=hid hh;clear hh
    go_wp2_with fail
    go_ret
    exact⟨Qha (by rw[hN.out,Hk.out,Gm.out];simp),hb.alloc H3 _⟩
   ·obtain⟨GF,gz,q1,q2,hh⟩:=kY
    have Gm:=hid hh;clear hh
    go_wp2_with fail
    go_ret
    exact⟨Qha (by rw[hN.out,Hk.out,Gm.out];simp),hb.alloc H3 _⟩
   ·obtain⟨GF,gz,q1,q2,hn,hh⟩:=kY
    have Gm:=hid hh;clear hh
    have Hv:=fun wx=>Qhg T[k].name wx (by unfold maxLen;omega)
    rw[hn]at Hv
    have Kd:=hid Hv;clear Hv hn
    go_wp2_with fail
    refine(Kd.out _).mono ?_
    rintro e w' ⟨rfl,rfl⟩
    go_wp2_with fail
    go_loopg [51] (T[k].props.length) (fun f x wx=>∃j:Nat,x = .int .i64 j∧j≤T[k].props.length∧T[k].props.length≤j+f∧Hid (T[k].props.all (fun p=>Q6a p.name)=(T[k].props.drop j).all (fun p=>Q6a p.name))∧Below wr.heap.size wr wx)
    case atStart=>exact⟨0,rfl,by omega,by omega,by simp[Hid],(Below.refl _ _).alloc (Nat.le_refl _) _⟩
    case round=>
     obtain⟨j,rfl,hj,Jv,hA,Hc⟩:=hrel
     have Hi:=hb.trans (Hc.mono H3)
     have mZ:=Hi.size
     by_cases Gd:j<T[k].props.length
     ·obtain⟨gp,op,rfl,pF,d0,d1,e0,e1⟩:=(jz.out.new Hc).at j Gd
      have KC:=fun wx=>Qwe (T[k].props[j]).name wx e0
      have gH:=hid (show(T[k].props.drop j).all (fun p=>Q6a p.name)=(Q6a (T[k].props[j]).name && (T[k].props.drop (j+1)).all (fun p=>Q6a p.name))from by rw[List.drop_eq_getElem_cons Gd];rfl)
      generalize Q6a (T[k].props[j]).name=y at KC gH
      have HB:=hid KC;clear KC
      cases y with
      | true=>
       go_wp2_with fail
       refine(HB.out _).mono ?_
       rintro e w' ⟨rfl,rfl⟩
       go_wp2_with fail
       go_roundg (gk-1)
       case measure=>omega
       case rel=>exact⟨j+1,by go_num,by omega,by omega,by show _=_;rw[hA.out,gH.out,Bool.true_and],Hc.alloc Hc.size _⟩
      | false=>
       go_wp2_with fail
       refine(HB.out _).mono ?_
       rintro e w' ⟨rfl,rfl⟩
       go_wp2_with fail
       go_ret
       exact⟨Qha (by rw[hN.out,Hk.out,hA.out,gH.out];simp),Hi.alloc mZ _⟩
     ·go_wp2_with fail
      go_roundg (go-1)
      case measure=>omega
      case rel=>exact⟨k+1,by go_num,by omega,by omega,by show _=_;rw[hN.out,Hk.out,hA.out,List.drop_eq_nil_of_le (by omega),Gm.out];simp,Hi⟩
   ·obtain⟨GF,gz,q1,q2,hn,hh⟩:=kY
    have Gm:=hid hh;clear hh
    have Hv:=fun wx=>Qhg T[k].name wx (by unfold maxLen;omega)
    rw[hn]at Hv
    have Kd:=hid Hv;clear Hv hn
    go_wp2_with fail
    refine(Kd.out _).mono ?_
    rintro e w' ⟨rfl,rfl⟩
    go_wp2_with fail
    go_ret
    exact⟨Qha (by rw[hN.out,Hk.out,Gm.out];simp),hb.alloc H3 _⟩
  ·go_wp2_with fail
   go_ret
   exact⟨Qha (by rw[hN.out,List.drop_eq_nil_of_le (by omega)];rfl),hb⟩
theorem Qle(z:Value)(n:Nat):madeCells #[z] n=Array.replicate n z:=by
 unfold madeCells
 apply Array.ext
 ·simp
 ·intro i h1 h2
  simp[Nat.mod_one]
theorem QUs:(Tryz.prog.info? 9).map (fun i=>(i.zero,i.size,i.bytes))=some (some (.string ⟨#[]⟩),1,16):=by kernel_rfl
theorem QFp(n:Nat)(hn:n≤1000)(wx:World):(Instr.makeSlice 70 (.int .i64 n) (.int .i64 n)).run Tryz.prog wx = .ok (.slice (some ⟨wx.heap.size,0,none⟩) n n) (wx.alloc (.cells (Array.replicate n (.string ⟨#[]⟩)) 9)):=by
 obtain⟨i0,hi,H4,Hp,gj⟩:=info_parts QUs
 have:=run_make (P:=Tryz.prog) wx 70 9 i0 _ Tryz.underlying70 hi H4 .i64 .i64 n n (by omega) (by omega) (by rw[gj];omega) (by omega)
 rw[this,Hp,show(Value.string ⟨#[]⟩).cells=#[.string ⟨#[]⟩]from rfl]
 simp[Qle]
def QLd(l:List ByteArray):Array Value:=(l.map Value.string).toArray
theorem Qqm(l:List ByteArray)(k:Nat)(h:k<l.length):(QLd l)[k]? = some (.string l[k]):=by simp[QLd,h]
theorem Q3k(l:List ByteArray)(k:Nat)(s:ByteArray):(QLd l).setIfInBounds k (.string s)=QLd (l.set k s):=by simp[QLd,List.map_set]
theorem QSo{l:List Qla}(h:l.length≤1):Qtd l=true:=by
 match l with
 | []=>rfl
 | [_]=>rfl
 | a::b::r=>simp at h
theorem QVo(l:List Qla)(j:Nat)(h0:1≤j)(h:j<l.length):Qtd (l.drop (j-1))=(ltS (l[j-1]'(by omega)).name l[j].name && Qtd (l.drop j)):=by
 obtain⟨i,rfl⟩:∃i,j=i+1:=⟨j-1,by omega⟩
 simp only[Nat.add_sub_cancel]
 rw[List.drop_eq_getElem_cons (show i<l.length by omega),List.drop_eq_getElem_cons h]
 rfl
theorem Q0e(T:List Qba)(i:Nat)(last:List ByteArray)(n:Qba)(r:List Qba):QTb T i last (n::r)=(Qtd n.props && (if i=0 then QTb T 1 last r else
 (decide (0≤QNg T n.parent (i+1) (i-1)) && !ltS n.name (last.getD (QNg T n.parent (i+1) (i-1)).toNat ByteArray.empty) && QTb T (i+1) (last.set (QNg T n.parent (i+1) (i-1)).toNat n.name) r))):=rfl
theorem Qym(R:Nat→Prop)(v:Value)(T:List Qba)(w:World)(hT:Qpa R w v T)(hn:QWa T=true)(hl:T.length≤1000) :
 Calls Tryz.prog 73 #[.agg #[v]] w fun e w'=>e = .returned (.bool (Qub T))∧Below w.heap.size w w':=by
 obtain⟨a,cap,rfl,gM,gB⟩:=hT.shape
 have HT:=hid hT;clear hT
 have Kd:=hid hn;clear hn
 have iD:=QFp T.length hl
 go_enter Tryz.func73,Tryz.ntmps73
 go_wp2_with fail
 clear iD
 go_loopg [15] (T.length) (fun f x wr=>∃(k:Nat) (last:List ByteArray),x = .int .i64 k∧k≤T.length∧T.length≤k+f∧last.length=T.length∧Hid (Qub T=QTb T k last (T.drop k))∧Below w.heap.size w wr∧
  Holds wr w.heap.size #[.slice a T.length cap] 27∧Holds wr (w.heap.size+1) (QLd last) 9)
 case atStart=>
  refine⟨0,List.replicate T.length ByteArray.empty,rfl,by omega,by omega,by simp,by simp[Hid,Qub],((Below.refl _ _).alloc (Nat.le_refl _) _).alloc (by simp) _,(Holds.new w _ _).alloc _,?_⟩
  have:=Holds.new (w.alloc (.cells #[.slice a T.length cap] 27)) (Array.replicate T.length (.string ⟨#[]⟩)) 9
  rw[show(w.alloc (.cells #[.slice a T.length cap] 27)).heap.size=w.heap.size+1 from by simp]at this
  rw[show QLd (List.replicate T.length ByteArray.empty)=Array.replicate T.length (.string ⟨#[]⟩)from by simp[QLd];right;rfl]
  exact this
 case round=>
  obtain⟨go,rfl⟩:∃x:Nat,x=gk:=⟨_,rfl⟩
  obtain⟨k,last,rfl,hk,hf,j8,hW,hb,hB,hS⟩:=hrel
  have H3:=hb.size
  have bx0:=hB.cell 0
  have blt:=hB.lt
  have slt:=hS.lt
  by_cases Hh:k<T.length
  ·obtain⟨g,o,pa,pc,rfl,hg,c0,c1,c2,hp,p1,p2,b0,b1,b2⟩:=(HT.out.new hb).at k Hh
   have jz:=hid hp;clear hp
   have Hk:=hid (show QTb T k last (T.drop k)=QTb T k last (T[k]::T.drop (k+1))from by rw[List.drop_eq_getElem_cons Hh])
   have Gv:=QBc Kd.out k Hh
   have jb:=hid Gv;clear Gv
   have k9:=Holds.new wr #[.int .i64 T[k].parent,.string T[k].name,.slice pa T[k].props.length pc] 46
   go_wp2_with fail
   go_loopg [6] (T[k].props.length) (fun f x wx=>∃(j m:Nat),x = .int .i64 j∧1≤j∧T[k].props.length≤j+f∧(1<j→j≤T[k].props.length)∧Hid (Qtd T[k].props=Qtd (T[k].props.drop (j-1)))∧
    wx=(wr.alloc (.cells #[.int .i64 T[k].parent,.string T[k].name,.slice pa T[k].props.length pc] 46)).drewN m)
   case atStart=>exact⟨1,0,rfl,by omega,by omega,by omega,by simp[Hid],rfl⟩
   case round=>
    obtain⟨j,m,rfl,iz,Jv,Gu,hA,rfl⟩:=hrel
    by_cases Gd:j<T[k].props.length
    ·obtain⟨gp,op,e1,pF,d0,d1,d2,d3⟩:=jz.out.at j Gd
     obtain⟨gq,oq,e2,yo,f0,f1,f2,f3⟩:=jz.out.at (j-1) (by omega)
     subst e1
     cases e2
     have yx:j-1<T[k].props.length:=by omega
     have Gb:IntKind.i64.wrap ((j:Int)-1)=(j:Int)-1:=IntWalk.i64_in _ (by omega)
     have js:(0:Int)≤(j:Int)-1:=by omega
     have jt:((j:Int)-1).toNat=j-1:=by omega
     have ju:(j:Int)-1<(T[k].props.length:Int):=by omega
     have sA:(j:Int)<(T[k].props.length:Int):=by omega
     have K6:=hid (QVo T[k].props j iz Gd)
     cases GR:Op.bytesLess (T[k].props[j-1]).name.toList (T[k].props[j]).name.toList with
     | true=>
      have hL:=hid (show ltS (T[k].props[j-1]).name (T[k].props[j]).name=true from GR)
      go_wp2_with fail
      go_quiet (fail)
      go_wp2_with fail
      clear Gb js jt ju sA
      go_roundg (gk-1)
      case measure=>omega
      case rel=>exact⟨j+1,_,by go_num,by omega,by omega,by omega,by show _=_;rw[hA.out,K6.out,hL.out,Bool.true_and];rfl,rfl⟩
     | false=>
      have hL:=hid (show ltS (T[k].props[j-1]).name (T[k].props[j]).name=false from GR)
      go_wp2_with fail
      go_quiet (fail)
      go_wp2_with fail
      clear Gb js jt ju sA
      go_ret
      exact⟨Qha (by rw[hW.out,Hk.out,Q0e,hA.out,K6.out,hL.out];rfl),QIa (QIa (hb.alloc H3 _) _) _⟩
    ·have uC:=hid (show Qtd T[k].props=true from by rw[hA.out];exact QSo (by simp;omega))
     clear hA
     have Hi:Below w.heap.size w ((wr.alloc (.cells #[.int .i64 T[k].parent,.string T[k].name,.slice pa T[k].props.length pc] 46)).drewN m):=QIa (hb.alloc H3 _) m
     have JU:=(hB.alloc (.cells #[.int .i64 T[k].parent,.string T[k].name,.slice pa T[k].props.length pc] 46)).drewN m
     have MT:=(hS.alloc (.cells #[.int .i64 T[k].parent,.string T[k].name,.slice pa T[k].props.length pc] 46)).drewN m
     by_cases GF:k=0
     ·subst GF
      have ie:=hid (show Qub T=QTb T 1 last (T.drop 1)from by rw[hW.out,Hk.out,Q0e,uC.out,if_pos rfl];rfl)
      go_wp2_with fail
      go_roundg (go-1)
      case measure=>omega
      case rel=>exact⟨1,last,by go_num,by omega,by omega,j8,ie.out,Hi,JU,MT⟩
     ·have eR:((k:Int) == 0)=false:=by simp;omega
      obtain⟨pN,tV⟩:=jb.out.2 (by omega)
      have gz:IntKind.i64.wrap ((k:Int)-1)=(k:Int)-1:=IntWalk.i64_in _ (by omega)
      have ie:=hid (show Qub T=(decide (0≤QNg T T[k].parent (k+1) ((k:Int)-1)) && !ltS T[k].name (last.getD (QNg T T[k].parent (k+1) ((k:Int)-1)).toNat ByteArray.empty) && QTb T (k+1) (last.set (QNg T T[k].parent (k+1) ((k:Int)-1)).toNat T[k].name) (T.drop (k+1)))from by rw[hW.out,Hk.out,Q0e,uC.out,if_neg GF,Bool.true_and])
      go_wp2_with fail
      clear gz
      go_loopg [7] k (fun f x wx=>∃(u:Int) (n m2:Nat),x = .int .i64 u∧u+1≤f∧-1≤u∧u<k∧u<n∧Hid (QNg T T[k].parent (k+1) ((k:Int)-1)=QNg T T[k].parent n u)∧
       wx=(wr.alloc (.cells #[.int .i64 T[k].parent,.string T[k].name,.slice pa T[k].props.length pc] 46)).drewN m2)
      case atStart=>exact⟨(k:Int)-1,k+1,m,by go_num,by omega,by omega,by omega,by omega,rfl,rfl⟩
      case round=>
       obtain⟨u,n,m2,rfl,Mj,M3,JH,cE,hU,rfl⟩:=hrel
       have Hu:Below w.heap.size w ((wr.alloc (.cells #[.int .i64 T[k].parent,.string T[k].name,.slice pa T[k].props.length pc] 46)).drewN m2):=QIa (hb.alloc H3 _) m2
       by_cases hneg:u<0
       ·have uQ:=hid (show QNg T T[k].parent n u=u from by cases n with
         | zero=>rfl
         | succ n=>simp[QNg,hneg])
        have vz:decide (u<0)=true:=by simpa using hneg
        have zC:decide (0≤u)=false:=by simpa using hneg
        go_wp2_with fail
        go_quiet (fail)
        go_wp2_with fail
        go_ret
        exact⟨Qha (by rw[ie.out,hU.out,uQ.out,zC];rfl),QIa Hu _⟩
       ·have vy:0≤u:=by omega
        by_cases eL:u=T[k].parent
        ·have uQ:=hid (show QNg T T[k].parent n u=u from by cases n with
          | zero=>rfl
          | succ n=>simp[QNg,eL])
         obtain⟨y,rfl⟩:=Int.eq_ofNat_of_zero_le vy
         have df:y<last.length:=by omega
         have Hm:((y:Int) != T[k].parent)=false:=by simp[eL]
         have vz:decide ((y:Int)<0)=false:=by simp
         have hyI:(y:Int)<(T.length:Int):=by omega
         have eT:wr.cell? ⟨w.heap.size+1,y,none⟩=some (.string last[y]):=(hS.cell y).trans (Qqm last y df)
         have hlf:wr.frozen? ⟨w.heap.size+1,y,none⟩=false:=hS.free y
         have vN:=hid eL;clear eL
         have aF:=hid (show last.getD y ByteArray.empty=last[y]from by simp[List.getD,df])
         cases k7:Op.bytesLess T[k].name.toList last[y].toList with
         | true=>
          have hL:=hid (show ltS T[k].name last[y]=true from k7)
          go_wp2_with fail
          go_quiet (fail)
          go_wp2_with fail
          go_ret
          exact⟨Qha (by rw[ie.out,hU.out,uQ.out,Int.toNat_natCast,aF.out,hL.out];simp),QIa Hu _⟩
         | false=>
          have hL:=hid (show ltS T[k].name last[y]=false from k7)
          go_wp2_with fail
          go_quiet (fail)
          go_wp2_with fail
          go_roundg (go-1)
          case measure=>omega
          case rel=>
           refine⟨k+1,last.set y T[k].name,by go_num,by omega,by omega,by simpa using j8,?_,?_,?_,?_⟩
           ·show _=_
            rw[ie.out,hU.out,uQ.out,Int.toNat_natCast,aF.out,hL.out];simp
           ·refine(QIa (hb.alloc H3 _) _).setCell ?_ _
            show w.heap.size≤w.heap.size+1
            omega
           ·refine((hB.alloc _).drewN _).other _ _ ?_
            show w.heap.size≠w.heap.size+1
            omega
           ·rw[←Q3k]
            exact((hS.alloc _).drewN _).set y (.string T[k].name)
        ·have Hm:(u != T[k].parent)=true:=by simpa using eL
         obtain⟨y,rfl⟩:=Int.eq_ofNat_of_zero_le vy
         have df:y<T.length:=by omega
         obtain⟨g2,o2,pa2,pc2,e3,_,f0,_⟩:=(HT.out.new hb).at y df
         cases e3
         have tU:=QBc Kd.out y df
         have zz:Hid (QNg T T[k].parent n (y:Int)=QNg T T[k].parent (n-1) T[y].parent):=by
          obtain⟨n',rfl⟩:∃n',n=n'+1:=⟨n-1,by omega⟩
          show _=_
          simp only[QNg]
          rw[if_neg (by rintro (e|e);omega;exact eL e),Int.toNat_natCast,Qsa df];rfl
         have hq:-1≤T[y].parent∧T[y].parent<y:=by
          by_cases h0:y=0
          ·have:=tU.1 h0;omega
          ·have:=tU.2 (by omega);omega
         obtain⟨kT,Dg⟩:=hq
         clear tU eL
         go_wp2_with fail
         go_roundg (gk-1)
         case measure=>omega
         case rel=>exact⟨T[y].parent,n-1,m2,rfl,by omega,kT,by omega,by omega,by show _=_;rw[hU.out,zz.out],rfl⟩
  ·go_wp2_with fail
   go_ret
   exact⟨Qha (by rw[hW.out,List.drop_eq_nil_of_le (by omega)];rfl),hb⟩
end Go.Proofs.YtgaboghigefgbaaGreatDoor
