/- Contracts of tree: Property, depth, what Check asks of properties. | What Read of source computes, in plain Lean. | What Load of include answers, in plain Lean. | Plain laws: bodies within bodies; the chapter's example. | Plain laws: what Read of source answers has its nodes in pairs, and its places in order. | Plain laws: nodes in pairs, places in order: bodies and their members. | Plain laws: nodes in pairs, places in order: a whole text. | Contracts of bringupref03: Property. -/
import Derived.Test.YtofhcgbihonckaaGreatY12
import Derived.Test.YtofhcgbihonckaaGreatY3
import Derived.Deep.LoopGhost
import Derived.IntWalk
import Derived.Test.YtofhcgbihonckaaGreatY10
import Derived.Test.YtofhcgbihonckaaGreatY11
import Derived.Test.YtofhcgbihonckaaGreatY6
set_option linter.all false
set_option maxHeartbeats 8000000
namespace Go.Proofs.YtofhcgbihonckaaGreat
open Go.Lib (hid)
open Go.RowKit
theorem QZh(s:ByteArray)(a:Nat):(s.extract a s.size).data.toList=s.data.toList.drop a:=by
 simp[ByteArray.data_extract,Array.toList_extract,List.extract_eq_take_drop]
 try exact List.take_of_length_le (by simp)
theorem QOj(l:List UInt8)(b:UInt8):decide (0≤Lib.indexByte l b)=Qyd l b.toNat:=Qre l b
theorem QCj(a b:ByteArray)(h:a.size+b.size≤9223372036854775807):∃c:ByteArray,(∀wx,(Op.stringOp .add a b).run Tryz.prog wx = .ok (.string c) wx)∧c.size=a.size+b.size∧c.data.toList=a.data.toList++b.data.toList:=by
 refine⟨a++b,fun wx=>?_,by simp,by simp⟩
 simp only[Op.stringOp]
 rw[if_neg (by simp[IntKind.max,IntKind.signed,IntKind.bits];omega)]
 rfl
theorem QLh(s:ByteArray)(w:World)(hs:s.size≤9223372036854775807) :
 Calls Tryz.prog 125 #[.string s] w fun e w'=>e = .returned (.bool (QFe s))∧w=w':=by
 have hH:=fun wx=>Tryz.strings_HasPrefix s ⟨#[35]⟩ wx
 have hF:=hid (show QFe s=QQb s.data.toList from rfl)
 by_cases h:Lib.hasPrefix s.data.toList [35]=true
 ·have eE:=Lib.hasPrefix_le h
  simp only[List.length_cons,List.length_nil]at eE
  have gW:1≤s.size:=by simpa using eE
  have GX:Lib.hasPrefix s.data.toList (⟨#[35]⟩:ByteArray).data.toList=true:=h
  rw[GX]at hH
  have HH:=hid hH;clear hH GX
  have hx:(s.extract 1 s.size).size=s.size-1:=by simp
  obtain⟨c,mU,gO,iY⟩:=QCj ⟨#[95]⟩ (s.extract 1 s.size) (by rw[show(⟨#[95]⟩:ByteArray).size=1 from rfl];omega)
  rw[show(⟨#[95]⟩:ByteArray).size=1 from rfl]at gO
  have kh:c.data.toList=95::s.data.toList.drop 1:=by rw[iY,QZh];rfl
  have hN:=fun wx=>Q7e c wx (by unfold maxLen;omega)
  have hC:=fun wx=>Tryz.strings_Contains_one c 64 wx
  rw[QOj,kh]at hC
  rw[kh]at hN
  have HF:Hid (QFe s=(QUa (95::s.data.toList.drop 1) && !Qyd (95::s.data.toList.drop 1) 64)):=by show _=_;rw[hF.out];unfold QQb;rw[if_pos h]
  have HN:=hid hN;clear hN
  have HC:=hid hC;clear hC
  clear h hF iY kh eE
  cases hy:QUa (95::s.data.toList.drop 1)with
  | true=>
   rw[hy]at HN HF
   clear hy
   go_enter Tryz.func125,Tryz.ntmps125
   go_wp2_with fail
   refine(HH.out _).mono ?_
   rintro e w' ⟨rfl,rfl⟩
   go_wp2_with fail
   refine(HN.out _).mono ?_
   rintro e w' ⟨rfl,rfl⟩
   go_wp2_with fail
   refine(HC.out _).mono ?_
   rintro e w' ⟨rfl,rfl⟩
   go_wp2_with fail
   go_ret
   exact⟨Qka (by rw[HF.out];simp),rfl⟩
  | false=>
   rw[hy]at HN HF
   clear hy
   go_enter Tryz.func125,Tryz.ntmps125
   go_wp2_with fail
   refine(HH.out _).mono ?_
   rintro e w' ⟨rfl,rfl⟩
   go_wp2_with fail
   refine(HN.out _).mono ?_
   rintro e w' ⟨rfl,rfl⟩
   go_wp2_with fail
   go_ret
   exact⟨Qka (by rw[HF.out];simp),rfl⟩
 ·have h:Lib.hasPrefix s.data.toList [35]=false:=by simpa using h
  have GX:Lib.hasPrefix s.data.toList (⟨#[35]⟩:ByteArray).data.toList=false:=h
  rw[GX]at hH
  have HH:=hid hH;clear hH GX
  have hN:=fun wx=>Q7e s wx (by unfold maxLen;omega)
  have hC:=fun wx=>Tryz.strings_Contains_one s 64 wx
  rw[QOj]at hC
  have HF:Hid (QFe s=(QUa s.data.toList && !Qyd s.data.toList 64)):=by show _=_;rw[hF.out];unfold QQb;rw[if_neg (by simp[h])]
  have HN:=hid hN;clear hN
  have HC:=hid hC;clear hC
  clear h hF
  cases hy:QUa s.data.toList with
  | true=>
   rw[hy]at HN HF
   clear hy
   go_enter Tryz.func125,Tryz.ntmps125
   go_wp2_with fail
   refine(HH.out _).mono ?_
   rintro e w' ⟨rfl,rfl⟩
   go_wp2_with fail
   refine(HN.out _).mono ?_
   rintro e w' ⟨rfl,rfl⟩
   go_wp2_with fail
   refine(HC.out _).mono ?_
   rintro e w' ⟨rfl,rfl⟩
   go_wp2_with fail
   go_ret
   exact⟨Qka (by rw[HF.out];simp),rfl⟩
  | false=>
   rw[hy]at HN HF
   clear hy
   go_enter Tryz.func125,Tryz.ntmps125
   go_wp2_with fail
   refine(HH.out _).mono ?_
   rintro e w' ⟨rfl,rfl⟩
   go_wp2_with fail
   refine(HN.out _).mono ?_
   rintro e w' ⟨rfl,rfl⟩
   go_wp2_with fail
   go_ret
   exact⟨Qka (by rw[HF.out];simp),rfl⟩
structure Qzb where
 value:Int
 label:ByteArray
structure QRa where
 kind:Int
 cells:List Qzb
 text:ByteArray
structure Qra where
 kind:Int
 label:ByteArray
 name:ByteArray
 parts:List QRa
 line:Int
 col:Int
abbrev Rs(α:Type):=Except (Nat × Int) α
section
variable(L:List Tok)
def tkN(i:Nat):Tok:=L.getD i ⟨8,[],0,0,0⟩
def txN(i:Nat):ByteArray:=⟨(tkN L i).text.toArray⟩
def isK(i:Nat)(kind:Int)(text:List UInt8):Bool:=decide ((tkN L i).kind=kind) && (text.isEmpty || decide ((tkN L i).text=text))
def Q1a(s:List UInt8)(i:Nat):Rs Nat:=if isK L i 4 s=true then .ok (i+1)else .error (i,6)
def Qha(kind:Int)(right:List UInt8→Bool)(i:Nat):Rs Nat:=if (tkN L i).kind=kind then(if right (tkN L i).text=true then .ok (i+1)else .error (i,1))else .error (i,6)
def QUb(i:Nat):Int × Int × Int:=Qlf (evF (L.map tkX) .prim 0 i)
def QMc:Nat→Nat→List UInt8→Rs (Nat × List UInt8)
 | 0,i,_=>.error (i,6)
 | n+1,i,acc=>
  if isK L i 4 [93]=true then .ok (i+1,acc)
  else if (tkN L i).kind≠2 then .error (i,6)
  else if 255<(tkN L i).value then .error (i,2)
  else QMc n (i+1) (acc++[((tkN L i).value % 256).toNat.toUInt8])
def QOb:Nat→Nat→List Qzb→Rs (Nat × List Qzb)
 | 0,i,_=>.error (i,6)
 | n+1,i,acc=>
  if isK L i 4 [62]=true then .ok (i+1,acc)
  else if (tkN L i).kind=6 then(if Qna (tkN L i).text=true then QOb n (i+1) (acc++[⟨0,txN L i⟩])else .error (i,1))
  else if (QUb L i).2.2≠0 then .error (i,(QUb L i).2.2)else QOb n (QUb L i).2.1.toNat (acc++[⟨(QUb L i).1,⟨#[]⟩⟩])
def Q6a:Nat:=L.length+1
def Qnb(i:Nat):Rs (Nat × QRa):=
 if (tkN L i).kind=3 then .ok (i+1,⟨2,[],txN L i⟩)
 else if (tkN L i).kind=6 then(if Qna (tkN L i).text=true then .ok (i+1,⟨4,[],txN L i⟩)else .error (i,1))
 else if isK L i 4 [60]=true then(match QOb L (Q6a L) (i+1) []with
  | .ok (j,cs)=>.ok (j,⟨1,cs,⟨#[]⟩⟩)
  | .error e=>.error e)
 else if isK L i 4 [91]=true then(match QMc L (Q6a L) (i+1) []with
  | .ok (j,b)=>.ok (j,⟨3,[],⟨b.toArray⟩⟩)
  | .error e=>.error e)
 else .error (i,6)
def Qgb:Nat→List UInt8→Nat→List QRa→Rs (Nat × List QRa)
 | 0,_,i,_=>.error (i,6)
 | n+1,sep,i,acc=>
  if isK L i 4 sep=true then(match Qnb L (i+1)with
   | .ok (j,p)=>Qgb n [44] j (acc++[p])
   | .error e=>.error e)
  else .ok (i,acc)
def Qhd(kind what:Int)(before:List UInt8)(right:List UInt8→Bool)(i:Nat):Rs (Nat × List Qra):=
 match Qha L what right (i+1)with
 | .error e=>.error e
 | .ok j=>match Q1a L [59] j with
  | .error e=>.error e
  | .ok k=>.ok (k,[⟨kind,⟨#[]⟩,⟨(before++(tkN L (i+1)).text).toArray⟩,[],(tkN L i).line,(tkN L i).col⟩])
inductive Md where
 | body:Qra→Nat→Md
 | mems:Nat→List Qra→Md
 | member:Nat→Md
 | named:Nat→Md
def Q7a:Nat→Md→Nat→Rs (Nat × List Qra)
 | 0,_,i=>.error (i,6)
 | n+1,.body d dp,i=>
  if isK L i 4 [123]=true then(if 8<dp then .error (i,3)else Q7a n (.mems dp [d]) (i+1))else .error (i,6)
 | n+1,.mems dp acc,i=>
  if isK L i 4 [125]=true then .ok (i+1,acc++[⟨2,⟨#[]⟩,⟨#[]⟩,[],(tkN L i).line,(tkN L i).col⟩])
  else(match Q7a n (.member dp) i with
   | .error e=>.error e
   | .ok (j,ds)=>Q7a n (.mems dp (acc++ds)) j)
 | n+1,.member dp,i=>
  if (tkN L i).kind=5 then(match Qha L 5 Qna i with
   | .error e=>.error e
   | .ok j=>match Qha L 1 QUa j with
    | .error e=>.error e
    | .ok k=>match Q7a n (.body ⟨1,txN L i,txN L j,[],(tkN L i).line,(tkN L i).col⟩ (dp+1)) k with
     | .error e=>.error e
     | .ok (m,ds)=>match Q1a L [59] m with
      | .error e=>.error e
      | .ok q=>.ok (q,ds))
  else if (tkN L i).kind=1 then(match Q7a n (.named dp) i with
   | .error e=>.error e
   | .ok (m,ds)=>match Q1a L [59] m with
    | .error e=>.error e
    | .ok q=>.ok (q,ds))
  else if isK L i 7 [100,101,108,101,116,101,45,112,114,111,112,101,114,116,121]=true then Qhd L 4 1 [] QQb i
  else if isK L i 7 [100,101,108,101,116,101,45,110,111,100,101]=true then Qhd L 5 1 [] QUa i
  else .error (i,6)
 | n+1,.named dp,i=>
  if isK L (i+1) 4 [123]=true then
   (if QUa (tkN L i).text=true then Q7a n (.body ⟨1,⟨#[]⟩,txN L i,[],(tkN L i).line,(tkN L i).col⟩ (dp+1)) (i+1)else .error (i,1))
  else if QQb (tkN L i).text=true then(match Qgb L (Q6a L) [61] (i+1) []with
   | .error e=>.error e
   | .ok (j,ps)=>.ok (j,[⟨3,⟨#[]⟩,txN L i,ps,(tkN L i).line,(tkN L i).col⟩]))
  else .error (i,1)
def Q8b:Nat:=3*L.length+3
def QRi(d:Qra)(i:Nat):Rs (Nat × List Qra):=
 match Q7a L (Q8b L) (.body d 0) i with
 | .error e=>.error e
 | .ok (m,ds)=>match Q1a L [59] m with
  | .error e=>.error e
  | .ok q=>.ok (q,ds)
def Qig(i:Nat):Rs (Nat × List Qra):=
 if (tkN L i).kind=5 then(match Qha L 5 Qna i with
  | .error e=>.error e
  | .ok j=>match Q1a L [47] j with
   | .error e=>.error e
   | .ok k=>QRi L ⟨1,txN L i,⟨#[47]⟩,[],(tkN L i).line,(tkN L i).col⟩ k)
 else if isK L i 4 [47]=true then QRi L ⟨1,⟨#[]⟩,⟨#[47]⟩,[],(tkN L i).line,(tkN L i).col⟩ (i+1)
 else if (tkN L i).kind=6 then(match Qha L 6 Qna i with
  | .error e=>.error e
  | .ok j=>QRi L ⟨1,⟨#[]⟩,⟨(38::(tkN L i).text).toArray⟩,[],(tkN L i).line,(tkN L i).col⟩ j)
 else if isK L i 7 [105,110,99,108,117,100,101]=true then Qhd L 6 3 [] (fun _=>true) i
 else if isK L i 7 [100,101,108,101,116,101,45,110,111,100,101]=true then Qhd L 5 6 [38] Qna i
 else .error (i,6)
def QJd:Nat→Nat→List Qra→Rs (List Qra)
 | 0,i,_=>.error (i,6)
 | n+1,i,acc=>
  if (tkN L i).kind=8 then .ok acc
  else(match Qig L i with
   | .error e=>.error e
   | .ok (j,ds)=>QJd n j (acc++ds))
end
def QTb(l:List UInt8)(file:Int):List Qra × (Int × Int × Int) × Int:=
 if (Qub l file).2.2≠0 then([],(Qub l file).2.1,(Qub l file).2.2)
 else match QJd (Qub l file).1 (Q6a (Qub l file).1) 0 []with
  | .ok D=>(D,(0,0,0),0)
  | .error (k,c)=>([],(file,(tkN (Qub l file).1 k).line,(tkN (Qub l file).1 k).col),c)
structure QFa where
 name:ByteArray
 text:ByteArray
abbrev FdT:=Int × Qra
abbrev QOk:=Int × Int × Int
def Qbj(x:FdT):QOk:=(x.1,x.2.line,x.2.col)
def Qoc(file:Int)(D:List Qra):List FdT:=D.map fun d=>(file,d)
def QYb(F:List QFa)(s:ByteArray):Option Nat:=F.findIdx? fun f=>decide (f.name=s)
abbrev Q4b:=List (Int × List FdT)
def Qkf(g:Q4b)(k:Nat):Option (List FdT):=(g.find? fun p=>decide (p.1=(k:Int))).map (·.2)
abbrev Lr:=Except (QOk × Int) (List ByteArray × Q4b × List FdT)
def Qhb(before:Nat)(out:List FdT):Nat:=6000-before-out.length
def Qnf:FdT:=(0,⟨0,⟨#[]⟩,⟨#[]⟩,[],0,0⟩)
def QAa(go:List ByteArray→Q4b→Nat→Nat→Lr)(F:List QFa)(opn:List Nat)(before:Nat):List FdT→List ByteArray→Q4b→List FdT→Lr
 | [],ord,giv,out=>.ok (ord,giv,out)
 | d::r,ord,giv,out=>
  let more:Lr:=if d.2.kind≠6 then .ok (ord,giv,[d])else
   match QYb F d.2.name with
   | none=>.error (Qbj d,4)
   | some k=>if opn.contains k=true then .error (Qbj d,10)else
    match Qkf giv k with
    | some l=>.ok (ord,giv,l)
    | none=>go ord giv k (before+out.length)
  match more with
  | .error e=>.error e
  | .ok (ord,giv,m)=>if Qhb before out<m.length then .error (Qbj (m.getD (Qhb before out) Qnf),3)else QAa go F opn before r ord giv (out++m)
def ldT(F:List QFa):Nat→List Nat→List ByteArray→Q4b→Nat→Nat→Lr
 | 0,_,_,_,_,_=>.error ((0,0,0),1)
 | f+1,opn,ord,giv,file,before=>
  let s:=QTb (F.getD file ⟨⟨#[]⟩,⟨#[]⟩⟩).text.data.toList file
  if s.2.2≠0 then .error (s.2.1,s.2.2)else
  match QAa (ldT F f (opn++[file])) F (opn++[file]) before (Qoc file s.1) (ord++[(F.getD file ⟨⟨#[]⟩,⟨#[]⟩⟩).name]) giv []with
  | .error e=>.error e
  | .ok (o,g,out)=>.ok (o,g++[((file:Int),out)],out)
def QRk:List QFa→List QFa→Bool
 | _,[]=>false
 | seen,f::r=>seen.any (fun g=>decide (g.name=f.name)) || QRk (seen++[f]) r
def Qld(F:List QFa)(main:ByteArray):Lr:=
 if 8<F.length then .error ((0,0,0),3)else if QRk [] F=true then .error ((0,0,0),5)else
 match QYb F main with
 | none=>.error ((0,0,0),4)
 | some k=>ldT F (F.length+1) [] [] [] k 0
def QAd(F:List QFa)(main:ByteArray):List FdT × QOk × Int:=match Qld F main with
 | .error (p,e)=>([],p,e)
 | .ok (_,_,out)=>(out,(0,0,0),0)
def Qwg(F:List QFa)(main:ByteArray):List ByteArray × Int:=match Qld F main with
 | .error (_,e)=>([],e)
 | .ok (ord,_,_)=>(ord,0)
def Q2n(s:ByteArray):Bool:=decide (s=⟨#[47]⟩) || decide (s.data.toList.head? = some 38)
def stT(e:Nat)(d:Qra):Option Nat:=
 if d.kind=1 then(if d.name≠⟨#[]⟩∧decide (e=0)=Q2n d.name then some (e+1)else none)
 else if d.kind=2 then(if e=0 then none else some (e-1))
 else if d.kind=3∨d.kind=4 then(if e=0 then none else some e)
 else if d.kind=6 then(if e=0 then some e else none)
 else some e
def Qjf:Nat→List Qra→Option Nat
 | e,[]=>some e
 | e,d::ds=>(stT e d).bind fun f=>Qjf f ds
theorem Q8k:∀(a b:List Qra) (e:Nat),Qjf e (a++b)=(Qjf e a).bind fun f=>Qjf f b:=by
 intro a
 induction a with
 | nil=>intro b e;rfl
 | cons d a ih=>
  intro b e
  simp only[List.cons_append,Qjf]
  cases stT e d with
  | none=>rfl
  | some f=>simpa using ih b f
theorem Qtl{c:UInt8}(h:Qja c.toNat=true∨decide ((c.toNat:Int)=95)=true):c≠47∧c≠38:=by
 constructor
 ·rintro rfl;revert h;decide
 ·rintro rfl;revert h;decide
theorem QVm{s:List UInt8}(h:QUa s=true):(⟨s.toArray⟩:ByteArray)≠⟨#[]⟩∧Q2n ⟨s.toArray⟩=false:=by
 unfold QUa at h
 simp only[Bool.and_eq_true,decide_eq_true_eq,Bool.or_eq_true]at h
 obtain⟨⟨⟨h1,_⟩,h2⟩,_⟩:=h
 cases s with
 | nil=>simp at h1
 | cons c s=>
  have hc:=Qtl (c:=c) (by simpa using h2)
  refine⟨fun e=>?_,?_⟩
  ·have:=congrArg (fun b:ByteArray=>b.data.toList.length) e
   simp at this
  ·unfold Q2n
   have e1:(⟨(c::s).toArray⟩:ByteArray)≠⟨#[47]⟩:=by
    intro e
    have:=congrArg (fun b:ByteArray=>b.data.toList) e
    simp at this
    exact hc.1 this.1
   have e2:¬((⟨(c::s).toArray⟩:ByteArray).data.toList.head? = some 38):=by simpa using hc.2
   rw[decide_eq_false e1,decide_eq_false e2];rfl
section
variable{L:List Tok}
def Asc(L:List Tok)(lo hi:Nat)(ds:List Qra):Prop:=∃ks:List Nat,ds.map (fun d=>(d.line,d.col))=ks.map (fun k=>((tkN L k).line,(tkN L k).col))∧ks.Pairwise (· < ·)∧∀k∈ks,lo≤k∧k<hi∧(tkN L k).kind≠8
theorem Asc.nil(lo hi:Nat):Asc L lo hi []:=⟨[],rfl,.nil,fun k h=>by cases h⟩
theorem Asc.one{lo hi k:Nat}{d:Qra}(h:d.line=(tkN L k).line∧d.col=(tkN L k).col)(h1:lo≤k)(h2:k<hi)(h8:(tkN L k).kind≠8):Asc L lo hi [d]:=⟨[k],by simp[h.1,h.2],by simp,fun q hq=>by simp at hq;subst hq;exact⟨h1,h2,h8⟩⟩
theorem Asc.app{lo mid mid2 hi:Nat}{a b:List Qra}(h:Asc L lo mid a)(k:Asc L mid2 hi b)(hm:mid≤mid2)(h1:lo≤mid2)(h2:mid≤hi):Asc L lo hi (a++b):=by
 obtain⟨ks,e1,p1,q1⟩:=h
 obtain⟨js,e2,p2,q2⟩:=k
 refine⟨ks++js,by simp[e1,e2],List.pairwise_append.2 ⟨p1,p2,fun x hx y hy=>?_⟩,fun x hx=>?_⟩
 ·have:=q1 x hx;have:=q2 y hy;omega
 ·rcases List.mem_append.1 hx with hx|hx
  ·obtain⟨z1,z2,z3⟩:=q1 x hx;exact⟨by omega,by omega,z3⟩
  ·obtain⟨z1,z2,z3⟩:=q2 x hx;exact⟨by omega,by omega,z3⟩
theorem Asc.wide{lo hi lo2 kU:Nat}{a:List Qra}(h:Asc L lo hi a)(h1:lo2≤lo)(h2:hi≤kU):Asc L lo2 kU a:=by
 obtain⟨ks,e1,p1,q1⟩:=h
 exact⟨ks,e1,p1,fun x hx=>by obtain⟨z1,z2,z3⟩:=q1 x hx;exact⟨by omega,by omega,z3⟩⟩
theorem QZc{i:Nat}{kind:Int}{s:List UInt8}(h:isK L i kind s=true)(hk:kind≠8):(tkN L i).kind≠8:=by
 unfold isK at h
 simp only[Bool.and_eq_true,decide_eq_true_eq]at h
 rw[h.1];exact hk
theorem Qke{s:List UInt8}{i j:Nat}(h:Q1a L s i = .ok j):j=i+1:=by
 unfold Q1a at h;split at h
 ·cases h;rfl
 ·cases h
theorem Qec{kind:Int}{right:List UInt8→Bool}{i j:Nat}(h:Qha L kind right i = .ok j):j=i+1∧right (tkN L i).text=true:=by
 unfold Qha at h
 split at h
 ·split at h
  ·rename_i hr;cases h;exact⟨rfl,hr⟩
  ·cases h
 ·cases h
theorem QLf{kind what:Int}{before:List UInt8}{right:List UInt8→Bool}{i j:Nat}{ds:List Qra}(h:Qhd L kind what before right i = .ok (j,ds))(h8:(tkN L i).kind≠8):i<j∧Asc L i j ds∧∃d,ds=[d]∧d.kind=kind:=by
 unfold Qhd at h
 cases h1:Qha L what right (i+1)with
 | error e=>rw[h1]at h;cases h
 | ok m=>
  rw[h1]at h
  simp only at h
  cases h2:Q1a L [59] m with
  | error e=>rw[h2]at h;cases h
  | ok q=>
   rw[h2]at h
   have e1:=(Qec h1).1
   have e2:=Qke h2
   cases h
   exact⟨by omega,Asc.one (k:=i) ⟨rfl,rfl⟩ (Nat.le_refl _) (by omega) h8,_,rfl,rfl⟩
end
section
variable{L:List Tok}
theorem QGo{i:Nat}(h:(QUb L i).2.2=0):i<(QUb L i).2.1.toNat:=by
 unfold QUb at h ⊢
 obtain⟨r,e1,e2⟩:=Qsf (L.map tkX) (40*(L.map tkX).length+40) .prim 0 i trivial (by simp only[Qqc];omega)
 have hE:evF (L.map tkX) .prim 0 i=r:=by unfold evF;rw[e1];rfl
 rw[hE]at h ⊢
 cases r with
 | none=>simp[Qlf]at h
 | some q=>
  have Hj:=(e2 q rfl).2 rfl
  obtain⟨v,j,p,g,d⟩:=q
  simp only[Qlf]at h Hj ⊢
  cases p <;> cases g <;> cases d <;> simp at h ⊢
  exact Hj
theorem QGm:∀(n i:Nat) (acc cs:List Qzb) (j:Nat),QOb L n i acc = .ok (j,cs)→i<j:=by
 intro n
 induction n with
 | zero=>intro i acc cs j h;cases h
 | succ n ih=>
  intro i acc cs j h
  rw[QOb]at h
  split at h
  ·cases h;omega
  ·split at h
   ·split at h
    ·have:=ih _ _ _ _ h;omega
    ·cases h
   ·split at h
    ·cases h
    ·rename_i hz
     have h0:=QGo (L:=L) (i:=i) (by simpa using hz)
     have:=ih _ _ _ _ h;omega
theorem QEm:∀(n i:Nat) (acc b:List UInt8) (j:Nat),QMc L n i acc = .ok (j,b)→i<j:=by
 intro n
 induction n with
 | zero=>intro i acc b j h;cases h
 | succ n ih=>
  intro i acc b j h
  rw[QMc]at h
  split at h
  ·cases h;omega
  ·split at h
   ·cases h
   ·split at h
    ·cases h
    ·have:=ih _ _ _ _ h;omega
theorem Qge{i j:Nat}{p:QRa}(h:Qnb L i = .ok (j,p)):i<j:=by
 unfold Qnb at h
 split at h
 ·cases h;omega
 ·split at h
  ·split at h
   ·cases h;omega
   ·cases h
  ·split at h
   ·cases hc:QOb L (Q6a L) (i+1) []with
    | error e=>rw[hc]at h;cases h
    | ok q=>rw[hc]at h;obtain⟨m,cs⟩:=q;have:=QGm _ _ _ _ _ hc;cases h;omega
   ·split at h
    ·cases hc:QMc L (Q6a L) (i+1) []with
     | error e=>rw[hc]at h;cases h
     | ok q=>rw[hc]at h;obtain⟨m,cs⟩:=q;have:=QEm _ _ _ _ _ hc;cases h;omega
    ·cases h
theorem QSj:∀(n:Nat) (sep:List UInt8) (i:Nat) (acc ps:List QRa) (j:Nat),Qgb L n sep i acc = .ok (j,ps)→i≤j:=by
 intro n
 induction n with
 | zero=>intro sep i acc ps j h;cases h
 | succ n ih=>
  intro sep i acc ps j h
  rw[Qgb]at h
  split at h
  ·cases hp:Qnb L (i+1)with
   | error e=>rw[hp]at h;cases h
   | ok q=>
    rw[hp]at h
    obtain⟨m,p⟩:=q
    have h1:=Qge hp
    have:=ih _ _ _ _ _ h
    omega
  ·cases h;omega
def Q3p(L:List Tok)(n:Nat):Prop:=∀d dp i j ds,Q7a L n (.body d dp) i = .ok (j,ds)→∃rest,ds=d::rest∧i<j∧Asc L i j rest∧∀e,Qjf (e+1) rest=some e
def Q5p(L:List Tok)(n:Nat):Prop:=∀dp acc i j ds,Q7a L n (.mems dp acc) i = .ok (j,ds)→∃rest,ds=acc++rest∧i<j∧Asc L i j rest∧∀e,Qjf (e+1) rest=some e
def Q4p(L:List Tok)(n:Nat):Prop:=∀dp i j ds,Q7a L n (.member dp) i = .ok (j,ds)→i<j∧Asc L i j ds∧∀e,Qjf (e+1) ds=some (e+1)
def Q6p(L:List Tok)(n:Nat):Prop:=∀dp i j ds,Q7a L n (.named dp) i = .ok (j,ds)→(tkN L i).kind=1→i<j∧Asc L i j ds∧∀e,Qjf (e+1) ds=some (e+1)
theorem QEl{d:Qra}{s:List UInt8}{rest:List Qra}{e:Nat}(hk:d.kind=1)(hn:d.name=⟨s.toArray⟩)(hs:QUa s=true)(hr:Qjf (e+1+1) rest=some (e+1)):Qjf (e+1) (d::rest)=some (e+1):=by
 obtain⟨h1,h2⟩:=QVm hs
 have:stT (e+1) d=some (e+1+1):=by
  unfold stT
  rw[if_pos hk,hn,if_pos ⟨h1,by rw[h2];simp⟩]
 simp only[Qjf,this,Option.bind_some]
 exact hr
theorem Qeg(L:List Tok):∀n,Q3p L n∧Q5p L n∧Q4p L n∧Q6p L n:=by
 intro n
 induction n with
 | zero=>exact⟨fun d dp i j ds h=>(by cases h),fun dp acc i j ds h=>(by cases h),fun dp i j ds h=>(by cases h),fun dp i j ds h _=>(by cases h)⟩
 | succ n ih=>
  obtain⟨hB,hM,hm,hN⟩:=ih
  refine⟨fun d dp i j ds h=>?_,fun dp acc i j ds h=>?_,fun dp i j ds h=>?_,fun dp i j ds h nv=>?_⟩
  ·rw[Q7a]at h
   split at h
   ·split at h
    ·cases h
    ·obtain⟨rest,e1,h1,h2,h3⟩:=hM _ _ _ _ _ h
     exact⟨rest,e1,by omega,h2.wide (by omega) (Nat.le_refl _),h3⟩
   ·cases h
  ·rw[Q7a]at h
   split at h
   ·rename_i hk
    cases h
    exact⟨_,rfl,by omega,Asc.one (k:=i) ⟨rfl,rfl⟩ (Nat.le_refl _) (by omega) (QZc hk (by decide)),fun e=>rfl⟩
   ·cases h1:Q7a L n (.member dp) i with
    | error e=>rw[h1]at h;cases h
    | ok q=>
     rw[h1]at h
     obtain⟨m,xs⟩:=q
     obtain⟨a1,a2,a3⟩:=hm _ _ _ _ h1
     obtain⟨rest,e1,b1,b2,b3⟩:=hM _ _ _ _ _ h
     refine⟨xs++rest,by rw[e1,List.append_assoc],by omega,a2.app b2 (Nat.le_refl _) (by omega) (by omega),fun e=>?_⟩
     rw[Q8k,a3 e]
     exact b3 e
  ·rw[Q7a]at h
   split at h
   ·rename_i ph
    cases h1:Qha L 5 Qna i with
    | error e=>rw[h1]at h;cases h
    | ok a=>
     rw[h1]at h
     simp only at h
     cases h2:Qha L 1 QUa a with
     | error e=>rw[h2]at h;cases h
     | ok b=>
      rw[h2]at h
      simp only at h
      obtain⟨r1,_⟩:=Qec h1
      obtain⟨r2,r3⟩:=Qec h2
      cases h3:Q7a L n (.body ⟨1,txN L i,txN L a,[],(tkN L i).line,(tkN L i).col⟩ (dp+1)) b with
      | error e=>rw[h3]at h;cases h
      | ok q=>
       rw[h3]at h
       obtain⟨m,xs⟩:=q
       simp only at h
       obtain⟨rest,e1,b1,b2,b3⟩:=hB _ _ _ _ _ h3
       cases h4:Q1a L [59] m with
       | error e=>rw[h4]at h;cases h
       | ok q=>
        rw[h4]at h
        have e2:=Qke h4
        cases h
        subst e1
        refine⟨by omega,?_,fun e=>QEl rfl rfl r3 (b3 (e+1))⟩
        exact(Asc.one (k:=i) (hi:=i+1) ⟨rfl,rfl⟩ (Nat.le_refl _) (by omega) (by rw[ph];decide)).app (b2.wide (Nat.le_refl _) (by omega)) (by omega) (by omega) (by omega)
   ·split at h
    ·rename_i nv
     cases h1:Q7a L n (.named dp) i with
     | error e=>rw[h1]at h;cases h
     | ok q=>
      rw[h1]at h
      obtain⟨m,xs⟩:=q
      simp only at h
      obtain⟨a1,a2,a3⟩:=hN _ _ _ _ h1 nv
      cases h4:Q1a L [59] m with
      | error e=>rw[h4]at h;cases h
      | ok q=>
       rw[h4]at h
       have e2:=Qke h4
       cases h
       exact⟨by omega,a2.wide (Nat.le_refl _) (by omega),a3⟩
    ·split at h
     ·rename_i ko
      obtain⟨a1,a2,d,rfl,a3⟩:=QLf h (QZc ko (by decide))
      exact⟨a1,a2,fun e=>by simp[Qjf,stT,a3]⟩
     ·split at h
      ·rename_i ko
       obtain⟨a1,a2,d,rfl,a3⟩:=QLf h (QZc ko (by decide))
       exact⟨a1,a2,fun e=>by simp[Qjf,stT,a3]⟩
      ·cases h
  ·rw[Q7a]at h
   split at h
   ·split at h
    ·rename_i hs
     obtain⟨rest,e1,b1,b2,b3⟩:=hB _ _ _ _ _ h
     subst e1
     refine⟨by omega,?_,fun e=>QEl rfl rfl hs (b3 (e+1))⟩
     exact(Asc.one (k:=i) (hi:=i+1) ⟨rfl,rfl⟩ (Nat.le_refl _) (by omega) (by rw[nv];decide)).app b2 (by omega) (by omega) (by omega)
    ·cases h
   ·split at h
    ·cases h1:Qgb L (Q6a L) [61] (i+1) []with
     | error e=>rw[h1]at h;cases h
     | ok q=>
      rw[h1]at h
      obtain⟨m,ps⟩:=q
      have:=QSj _ _ _ _ _ _ h1
      cases h
      exact⟨by omega,Asc.one (k:=i) ⟨rfl,rfl⟩ (Nat.le_refl _) (by omega) (by rw[nv];decide),fun e=>by simp[Qjf,stT]⟩
    ·cases h
end
section
variable{L:List Tok}
theorem Q0m{d:Qra}{rest:List Qra}(hk:d.kind=1)(hn:d.name≠⟨#[]⟩)(ht:Q2n d.name=true)(hr:Qjf (0+1) rest=some 0):Qjf 0 (d::rest)=some 0:=by
 have:stT 0 d=some (0+1):=by
  unfold stT
  rw[if_pos hk,if_pos ⟨hn,by rw[ht];rfl⟩]
 simp only[Qjf,this,Option.bind_some]
 exact hr
theorem QQf{d:Qra}{i j k lo:Nat}{ds:List Qra}(h:QRi L d i = .ok (j,ds))(hk:d.kind=1)(hn:d.name≠⟨#[]⟩)(ht:Q2n d.name=true)(hp:d.line=(tkN L k).line∧d.col=(tkN L k).col)(h1:lo≤k)(h2:k<i)(h8:(tkN L k).kind≠8):i<j∧Asc L lo j ds∧Qjf 0 ds=some 0:=by
 unfold QRi at h
 cases h3:Q7a L (Q8b L) (.body d 0) i with
 | error e=>rw[h3]at h;cases h
 | ok q=>
  rw[h3]at h
  obtain⟨m,xs⟩:=q
  simp only at h
  obtain⟨rest,e1,b1,b2,b3⟩:=(Qeg L (Q8b L)).1 _ _ _ _ _ h3
  cases h4:Q1a L [59] m with
  | error e=>rw[h4]at h;cases h
  | ok q=>
   rw[h4]at h
   have e2:=Qke h4
   cases h
   subst e1
   exact⟨by omega,(Asc.one (k:=k) (hi:=k+1) hp h1 (by omega) h8).app (b2.wide (Nat.le_refl _) (by omega)) (by omega) (by omega) (by omega),Q0m hk hn ht (b3 0)⟩
theorem Q6n(s:List UInt8):(⟨(38::s).toArray⟩:ByteArray)≠⟨#[]⟩∧Q2n ⟨(38::s).toArray⟩=true:=by
 refine⟨fun e=>?_,?_⟩
 ·have:=congrArg (fun b:ByteArray=>b.data.toList.length) e
  simp at this
 ·unfold Q2n
  have:(⟨(38::s).toArray⟩:ByteArray).data.toList.head? = some 38:=by simp
  rw[decide_eq_true this,Bool.or_true]
theorem Qrm{i j:Nat}{ds:List Qra}(h:Qig L i = .ok (j,ds)):i<j∧Asc L i j ds∧Qjf 0 ds=some 0:=by
 have jV:(⟨#[47]⟩:ByteArray)≠⟨#[]⟩∧Q2n ⟨#[47]⟩=true:=by decide
 unfold Qig at h
 split at h
 ·rename_i ph
  cases h1:Qha L 5 Qna i with
  | error e=>rw[h1]at h;cases h
  | ok a=>
   rw[h1]at h
   simp only at h
   have r1:=(Qec h1).1
   cases h2:Q1a L [47] a with
   | error e=>rw[h2]at h;cases h
   | ok b=>
    rw[h2]at h
    have r2:=Qke h2
    obtain⟨a1,a2,a3⟩:=QQf (k:=i) (lo:=i) h rfl jV.1 jV.2 ⟨rfl,rfl⟩ (Nat.le_refl _) (by omega) (by rw[ph];decide)
    exact⟨by omega,a2,a3⟩
 ·split at h
  ·rename_i ko
   obtain⟨a1,a2,a3⟩:=QQf (k:=i) (lo:=i) h rfl jV.1 jV.2 ⟨rfl,rfl⟩ (Nat.le_refl _) (by omega) (QZc ko (by decide))
   exact⟨by omega,a2,a3⟩
  ·split at h
   ·rename_i tF
    cases h1:Qha L 6 Qna i with
    | error e=>rw[h1]at h;cases h
    | ok a=>
     rw[h1]at h
     have r1:=(Qec h1).1
     have iS:=Q6n (tkN L i).text
     obtain⟨a1,a2,a3⟩:=QQf (k:=i) (lo:=i) h rfl iS.1 iS.2 ⟨rfl,rfl⟩ (Nat.le_refl _) (by omega) (by rw[tF];decide)
     exact⟨by omega,a2,a3⟩
   ·split at h
    ·rename_i ko
     obtain⟨a1,a2,d,rfl,a3⟩:=QLf h (QZc ko (by decide))
     exact⟨a1,a2,by simp[Qjf,stT,a3]⟩
    ·split at h
     ·rename_i ko
      obtain⟨a1,a2,d,rfl,a3⟩:=QLf h (QZc ko (by decide))
      exact⟨a1,a2,by simp[Qjf,stT,a3]⟩
     ·cases h
theorem QNk:∀(n i:Nat) (acc D:List Qra),QJd L n i acc = .ok D→Asc L 0 i acc→Qjf 0 acc=some 0→∃hi,Asc L 0 hi D∧Qjf 0 D=some 0:=by
 intro n
 induction n with
 | zero=>intro i acc D h;cases h
 | succ n ih=>
  intro i acc D h ha hd
  rw[QJd]at h
  split at h
  ·cases h;exact⟨i,ha,hd⟩
  ·cases h1:Qig L i with
   | error e=>rw[h1]at h;cases h
   | ok q=>
    rw[h1]at h
    obtain⟨j,ds⟩:=q
    obtain⟨a1,a2,a3⟩:=Qrm h1
    exact ih _ _ _ h (ha.app a2 (Nat.le_refl _) (by omega) (by omega)) (by rw[Q8k,hd];exact a3)
end
theorem Q5o(l:List UInt8)(file:Int):((QTb l file).2.2=0∧Qjf 0 (QTb l file).1=some 0∧∃hi,Asc (Qub l file).1 0 hi (QTb l file).1∧(Qub l file).2.2=0)∨((QTb l file).2.2≠0∨(QTb l file).1=[]):=by
 unfold QTb
 split
 ·exact .inr (.inr rfl)
 ·rename_i h0
  cases h:QJd (Qub l file).1 (Q6a (Qub l file).1) 0 []with
  | error e=>exact .inr (.inr rfl)
  | ok D=>
   obtain⟨hi,a1,a2⟩:=QNk _ _ _ _ h (Asc.nil _ _) rfl
   exact .inl ⟨rfl,a2,hi,a1,by simpa using h0⟩
theorem Qyl(r:List UInt8):QUa (97::r)=QUa (95::r):=by
 unfold QUa
 simp[Qzc,show Qja 97=true from by decide,show Q2a 97=true from by decide,show Q2a 95=true from by decide,show Qja 95=false from by decide]
theorem Q1f(r:List UInt8):QQb (35::r)=(QUa (97::r) && !Qyd r 64):=by
 unfold QQb
 rw[if_pos (by simp[Lib.hasPrefix]),Qyl]
 simp[Qyd]
theorem Q1e(c:UInt8)(r:List UInt8)(h:c.toNat≠35):QQb (c::r)=(QUa (c::r) && !Qyd (c::r) 64):=by
 unfold QQb
 rw[if_neg (by simp[Lib.hasPrefix];intro e;exact h (by rw[←e];rfl))]
theorem Qcn(l:List UInt8)(h:¬(1≤l.length∧l.length≤31)):QQb l=false:=by
 cases l with
 | nil=>rfl
 | cons c r=>
  by_cases hc:c.toNat=35
  ·have:c=35:=UInt8.toNat_inj.1 hc
   subst this
   rw[Q1f];unfold QUa
   rw[show decide (1≤(97::r:List UInt8).length∧(97::r:List UInt8).length≤31)=false from by simpa using h];rfl
  ·rw[Q1e c r hc];unfold QUa
   rw[decide_eq_false h];rfl
theorem QIo(l:List UInt8)(h:Qyd l 64=true):QQb l=false:=by
 cases l with
 | nil=>rfl
 | cons c r=>
  by_cases hc:c.toNat=35
  ·have:c=35:=UInt8.toNat_inj.1 hc
   subst this
   rw[Q1f,show Qyd r 64=true from by simpa[Qyd]using h];simp
  ·rw[Q1e c r hc,h];simp
theorem Qzh(s:ByteArray)(w:World)(hs:s.size≤9223372036854775807) :
 Calls Tryz.prog 107 #[.string s] w fun e w'=>e = .returned (.bool (QFe s))∧w=w':=by
 by_cases hl:1≤s.size∧s.size≤31
 ·obtain⟨h1,h2⟩:=hl
  go_enter Tryz.func107,Tryz.ntmps107
  go_wp2_with fail
  go_loop [3] (fun i=>∃k:Nat,k≤s.size∧i = .int .i64 k∧Hid (Qyd s.data.toList 64=Qyd (s.data.toList.drop k) 64)) (fun i=>s.size-(intOf i).toNat)
  case atStart=>exact⟨0,Nat.zero_le _,rfl,rfl⟩
  case round=>
   obtain⟨k,hk,rfl,hB⟩:=hrel
   by_cases Hj:k<s.size
   ·have hD:=hid (Qxa s k Hj)
    by_cases h64:s[k].toNat=64
    ·have hP:=hid (show QFe s=false from QIo _ (by rw[hB.out,hD.out,QDd,h64];rfl))
     have pi:((s[k].toNat:Int) == 64)=true:=by simp[h64]
     clear h64
     go_wp2_with fail
     go_ret
     exact⟨Qka (by rw[hP.out]),rfl⟩
    ·have pi:((s[k].toNat:Int) == 64)=false:=by simp;omega
     have hS:=hid (show Qyd s.data.toList 64=Qyd (s.data.toList.drop (k+1)) 64 from by
      rw[hB.out,hD.out,QDd,show decide (((s[k].toNat:Nat):Int)=64)=false from by simp;omega];rfl)
     clear h64
     go_wp2_with fail
     go_round
     case rel=>exact⟨k+1,by omega,by go_num,hS⟩
     case measure=>simp[intOf];omega
   ·have hM:=hid (show Qyd s.data.toList 64=false from by rw[hB.out,Q9a s k (by omega)];rfl)
    have hD:=hid (show s.data.toList=s[0]::s.data.toList.drop 1 from by have:=Qxa s 0 h1;rw[List.drop_zero]at this;exact this)
    clear hB hk
    by_cases h35:s[0].toNat=35
    ·have pd:((s[0].toNat:Int) == 35)=true:=by simp[h35]
     have hP:=hid (show QFe s=QUa (97::s.data.toList.drop 1)from by
      have GF:=hM.out
      unfold QFe
      rw[hD.out]at GF ⊢
      rw[QDd]at GF
      have e:s[0]=35:=UInt8.toNat_inj.1 h35
      rw[e]at GF ⊢
      rw[Q1f]
      simp at GF
      simp[GF])
     by_cases GD:s.size=1
     ·have lN:((s.size:Int) == 1)=true:=by simp;omega
      have GU:=hid (show QFe s=true from by rw[hP.out,List.drop_eq_nil_of_le (by simp;omega)];decide)
      clear h35 GD
      go_wp2_with fail
      go_ret
      exact⟨Qka (by rw[GU.out]),rfl⟩
     ·have lN:((s.size:Int) == 1)=false:=by simp;omega
      obtain⟨c,mU,gO,iY⟩:=QCj ⟨#[97]⟩ (s.extract 1 s.size) (by rw[show(⟨#[97]⟩:ByteArray).size=1 from rfl];simp;omega)
      have rV:c.size≤maxLen:=by rw[gO,show(⟨#[97]⟩:ByteArray).size=1 from rfl];simp;unfold maxLen;omega
      have Mg:=hid (QAh c · rV)
      have GU:=hid (show QUa c.data.toList=QFe s from by rw[hP.out,iY,QZh];rfl)
      clear h35 GD gO iY rV
      go_wp2_with fail
      refine(Mg.out _).mono ?_
      rintro e w' ⟨rfl,rfl⟩
      go_wp2_with fail
      go_ret
      exact⟨Qka GU.out,rfl⟩
    ·have pd:((s[0].toNat:Int) == 35)=false:=by simp;omega
     have hP:=hid (show QUa s.data.toList=QFe s from by
      have GF:=hM.out
      unfold QFe
      rw[hD.out]at GF ⊢
      rw[Q1e _ _ h35,GF];simp)
     clear h35
     go_wp2_with fail
     refine(QAh s _ (by unfold maxLen;omega)).mono ?_
     rintro e w' ⟨rfl,rfl⟩
     go_wp2_with fail
     go_ret
     exact⟨Qka hP.out,rfl⟩
 ·have hP:=hid (show QFe s=false from Qcn _ (by simpa using hl))
  have gO:(s.size:Int)<1∨(1≤(s.size:Int)∧31<(s.size:Int)):=by omega
  clear hl
  rcases gO with h|⟨h,h'⟩
  all_goals
   go_enter Tryz.func107,Tryz.ntmps107
   go_wp2_with fail
   go_ret
   exact⟨Qka (by rw[hP.out]),rfl⟩
end Go.Proofs.YtofhcgbihonckaaGreat
