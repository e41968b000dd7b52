/- Contracts of tree: Property, depth, what Check asks of properties. | What Read of source computes, in plain Lean. | What Load of include answers, in plain Lean. | Plain laws: bodies within bodies; the chapter's example. | Plain laws: what Read of source answers has its nodes in pairs, and its places in order. | Plain laws: nodes in pairs, places in order: bodies and their members. | Plain laws: nodes in pairs, places in order: a whole text. | Contracts of bringupref03: Property. -/
import Derived.Test.YtofhcgbihonckaaGreatZ7
import Derived.Test.YtofhcgbihonckaaGreatZ8
import Derived.Deep.LoopGhost
import Derived.IntWalk
import Derived.Test.YtofhcgbihonckaaGreatZ3
import Derived.Test.YtofhcgbihonckaaGreatZ6
import Derived.Test.YtofhcgbihonckaaGreatZ5
set_option linter.all false
set_option maxHeartbeats 8000000
namespace Go.Proofs.YtofhcgbihonckaaGreat
open Go.Lib (hid)
open Go.RowKit
theorem Qzi(s:ByteArray)(a:Nat):(s.extract a s.size).data.toList=s.data.toList.drop a:=by
 simp[ByteArray.data_extract,Array.toList_extract,List.extract_eq_take_drop]
 try exact List.take_of_length_le (by simp)
theorem QMk(l:List UInt8)(b:UInt8):decide (0≤Lib.indexByte l b)=QYd l b.toNat:=QTe l b
theorem Qsk(a b:ByteArray)(h:a.size+b.size≤9223372036854775807):∃c:ByteArray,(∀wx,(Op.stringOp .add a b).run Tryz.prog wx = .ok (.string c) wx)∧c.size=a.size+b.size∧c.data.toList=a.data.toList++b.data.toList:=by
 refine⟨a++b,fun wx=>?_,by simp,by simp⟩
 simp only[Op.stringOp]
 rw[if_neg (by simp[IntKind.max,IntKind.signed,IntKind.bits];omega)]
 rfl
theorem Qli(s:ByteArray)(w:World)(hs:s.size≤9223372036854775807) :
 Calls Tryz.prog 125 #[.string s] w fun e w'=>e = .returned (.bool (Q6e s))∧w=w':=by
 have hH:=fun wx=>Tryz.strings_HasPrefix s ⟨#[35]⟩ wx
 have hF:=hid (show Q6e s=Q5b s.data.toList from rfl)
 by_cases h:Lib.hasPrefix s.data.toList [35]=true
 ·have ir:=Lib.hasPrefix_le h
  simp only[List.length_cons,List.length_nil]at ir
  have gy:1≤s.size:=by simpa using ir
  have Gv:Lib.hasPrefix s.data.toList (⟨#[35]⟩:ByteArray).data.toList=true:=h
  rw[Gv]at hH
  have HH:=hid hH;clear hH Gv
  have hx:(s.extract 1 s.size).size=s.size-1:=by simp
  obtain⟨c,Kj,Hx,og⟩:=Qsk ⟨#[95]⟩ (s.extract 1 s.size) (by rw[show(⟨#[95]⟩:ByteArray).size=1 from rfl];omega)
  rw[show(⟨#[95]⟩:ByteArray).size=1 from rfl]at Hx
  have ke:c.data.toList=95::s.data.toList.drop 1:=by rw[og,Qzi];rfl
  have hN:=fun wx=>QBf c wx (by unfold maxLen;omega)
  have hC:=fun wx=>Tryz.strings_Contains_one c 64 wx
  rw[QMk,ke]at hC
  rw[ke]at hN
  have HF:Hid (Q6e s=(Q1a (95::s.data.toList.drop 1) && !QYd (95::s.data.toList.drop 1) 64)):=by show _=_;rw[hF.out];unfold Q5b;rw[if_pos h]
  have HN:=hid hN;clear hN
  have HC:=hid hC;clear hC
  clear h hF og ke ir
  cases hy:Q1a (95::s.data.toList.drop 1)with
  | true=>
   rw[hy]at HN HF
   clear hy
   go_enter Tryz.func125,Tryz.ntmps125
   go_wp2_with fail
   refine(HH.out _).mono ?_
   rintro e w' ⟨rfl,rfl⟩
   go_wp2_with fail
   refine(HN.out _).mono ?_
   rintro e w' ⟨rfl,rfl⟩
   go_wp2_with fail
   refine(HC.out _).mono ?_
   rintro e w' ⟨rfl,rfl⟩
   go_wp2_with fail
   go_ret
   exact⟨Qla (by rw[HF.out];simp),rfl⟩
  | false=>
   rw[hy]at HN HF
   clear hy
   go_enter Tryz.func125,Tryz.ntmps125
   go_wp2_with fail
   refine(HH.out _).mono ?_
   rintro e w' ⟨rfl,rfl⟩
   go_wp2_with fail
   refine(HN.out _).mono ?_
   rintro e w' ⟨rfl,rfl⟩
   go_wp2_with fail
   go_ret
   exact⟨Qla (by rw[HF.out];simp),rfl⟩
 ·have h:Lib.hasPrefix s.data.toList [35]=false:=by simpa using h
  have Gv:Lib.hasPrefix s.data.toList (⟨#[35]⟩:ByteArray).data.toList=false:=h
  rw[Gv]at hH
  have HH:=hid hH;clear hH Gv
  have hN:=fun wx=>QBf s wx (by unfold maxLen;omega)
  have hC:=fun wx=>Tryz.strings_Contains_one s 64 wx
  rw[QMk]at hC
  have HF:Hid (Q6e s=(Q1a s.data.toList && !QYd s.data.toList 64)):=by show _=_;rw[hF.out];unfold Q5b;rw[if_neg (by simp[h])]
  have HN:=hid hN;clear hN
  have HC:=hid hC;clear hC
  clear h hF
  cases hy:Q1a s.data.toList with
  | true=>
   rw[hy]at HN HF
   clear hy
   go_enter Tryz.func125,Tryz.ntmps125
   go_wp2_with fail
   refine(HH.out _).mono ?_
   rintro e w' ⟨rfl,rfl⟩
   go_wp2_with fail
   refine(HN.out _).mono ?_
   rintro e w' ⟨rfl,rfl⟩
   go_wp2_with fail
   refine(HC.out _).mono ?_
   rintro e w' ⟨rfl,rfl⟩
   go_wp2_with fail
   go_ret
   exact⟨Qla (by rw[HF.out];simp),rfl⟩
  | false=>
   rw[hy]at HN HF
   clear hy
   go_enter Tryz.func125,Tryz.ntmps125
   go_wp2_with fail
   refine(HH.out _).mono ?_
   rintro e w' ⟨rfl,rfl⟩
   go_wp2_with fail
   refine(HN.out _).mono ?_
   rintro e w' ⟨rfl,rfl⟩
   go_wp2_with fail
   go_ret
   exact⟨Qla (by rw[HF.out];simp),rfl⟩
structure QJb where
 value:Int
 label:ByteArray
structure QRa where
 kind:Int
 cells:List QJb
 text:ByteArray
structure Qwa where
 kind:Int
 label:ByteArray
 name:ByteArray
 parts:List QRa
 line:Int
 col:Int
abbrev Rs(α:Type):=Except (Nat × Int) α
section
variable(L:List Tok)
def tkN(i:Nat):Tok:=L.getD i ⟨8,[],0,0,0⟩
def txN(i:Nat):ByteArray:=⟨(tkN L i).text.toArray⟩
def isK(i:Nat)(kind:Int)(text:List UInt8):Bool:=decide ((tkN L i).kind=kind) && (text.isEmpty || decide ((tkN L i).text=text))
def Qwb(s:List UInt8)(i:Nat):Rs Nat:=if isK L i 4 s=true then .ok (i+1)else .error (i,6)
def Qja(kind:Int)(right:List UInt8→Bool)(i:Nat):Rs Nat:=if (tkN L i).kind=kind then(if right (tkN L i).text=true then .ok (i+1)else .error (i,1))else .error (i,6)
def Q8b(i:Nat):Int × Int × Int:=QSf (evF (L.map tkX) .prim 0 i)
def Q8c:Nat→Nat→List UInt8→Rs (Nat × List UInt8)
 | 0,i,_=>.error (i,6)
 | n+1,i,acc=>
  if isK L i 4 [93]=true then .ok (i+1,acc)
  else if (tkN L i).kind≠2 then .error (i,6)
  else if 255<(tkN L i).value then .error (i,2)
  else Q8c n (i+1) (acc++[((tkN L i).value % 256).toNat.toUInt8])
def Q1b:Nat→Nat→List QJb→Rs (Nat × List QJb)
 | 0,i,_=>.error (i,6)
 | n+1,i,acc=>
  if isK L i 4 [62]=true then .ok (i+1,acc)
  else if (tkN L i).kind=6 then(if Qra (tkN L i).text=true then Q1b n (i+1) (acc++[⟨0,txN L i⟩])else .error (i,1))
  else if (Q8b L i).2.2≠0 then .error (i,(Q8b L i).2.2)else Q1b n (Q8b L i).2.1.toNat (acc++[⟨(Q8b L i).1,⟨#[]⟩⟩])
def Qgb:Nat:=L.length+1
def Qsb(i:Nat):Rs (Nat × QRa):=
 if (tkN L i).kind=3 then .ok (i+1,⟨2,[],txN L i⟩)
 else if (tkN L i).kind=6 then(if Qra (tkN L i).text=true then .ok (i+1,⟨4,[],txN L i⟩)else .error (i,1))
 else if isK L i 4 [60]=true then(match Q1b L (Qgb L) (i+1) []with
  | .ok (j,cs)=>.ok (j,⟨1,cs,⟨#[]⟩⟩)
  | .error e=>.error e)
 else if isK L i 4 [91]=true then(match Q8c L (Qgb L) (i+1) []with
  | .ok (j,b)=>.ok (j,⟨3,[],⟨b.toArray⟩⟩)
  | .error e=>.error e)
 else .error (i,6)
def Qvb:Nat→List UInt8→Nat→List QRa→Rs (Nat × List QRa)
 | 0,_,i,_=>.error (i,6)
 | n+1,sep,i,acc=>
  if isK L i 4 sep=true then(match Qsb L (i+1)with
   | .ok (j,p)=>Qvb n [44] j (acc++[p])
   | .error e=>.error e)
  else .ok (i,acc)
def QVd(kind what:Int)(before:List UInt8)(right:List UInt8→Bool)(i:Nat):Rs (Nat × List Qwa):=
 match Qja L what right (i+1)with
 | .error e=>.error e
 | .ok j=>match Qwb L [59] j with
  | .error e=>.error e
  | .ok k=>.ok (k,[⟨kind,⟨#[]⟩,⟨(before++(tkN L (i+1)).text).toArray⟩,[],(tkN L i).line,(tkN L i).col⟩])
inductive Md where
 | body:Qwa→Nat→Md
 | mems:Nat→List Qwa→Md
 | member:Nat→Md
 | named:Nat→Md
def Qxb:Nat→Md→Nat→Rs (Nat × List Qwa)
 | 0,_,i=>.error (i,6)
 | n+1,.body d dp,i=>
  if isK L i 4 [123]=true then(if 8<dp then .error (i,3)else Qxb n (.mems dp [d]) (i+1))else .error (i,6)
 | n+1,.mems dp acc,i=>
  if isK L i 4 [125]=true then .ok (i+1,acc++[⟨2,⟨#[]⟩,⟨#[]⟩,[],(tkN L i).line,(tkN L i).col⟩])
  else(match Qxb n (.member dp) i with
   | .error e=>.error e
   | .ok (j,ds)=>Qxb n (.mems dp (acc++ds)) j)
 | n+1,.member dp,i=>
  if (tkN L i).kind=5 then(match Qja L 5 Qra i with
   | .error e=>.error e
   | .ok j=>match Qja L 1 Q1a j with
    | .error e=>.error e
    | .ok k=>match Qxb n (.body ⟨1,txN L i,txN L j,[],(tkN L i).line,(tkN L i).col⟩ (dp+1)) k with
     | .error e=>.error e
     | .ok (m,ds)=>match Qwb L [59] m with
      | .error e=>.error e
      | .ok q=>.ok (q,ds))
  else if (tkN L i).kind=1 then(match Qxb n (.named dp) i with
   | .error e=>.error e
   | .ok (m,ds)=>match Qwb L [59] m with
    | .error e=>.error e
    | .ok q=>.ok (q,ds))
  else if isK L i 7 [100,101,108,101,116,101,45,112,114,111,112,101,114,116,121]=true then QVd L 4 1 [] Q5b i
  else if isK L i 7 [100,101,108,101,116,101,45,110,111,100,101]=true then QVd L 5 1 [] Q1a i
  else .error (i,6)
 | n+1,.named dp,i=>
  if isK L (i+1) 4 [123]=true then
   (if Q1a (tkN L i).text=true then Qxb n (.body ⟨1,⟨#[]⟩,txN L i,[],(tkN L i).line,(tkN L i).col⟩ (dp+1)) (i+1)else .error (i,1))
  else if Q5b (tkN L i).text=true then(match Qvb L (Qgb L) [61] (i+1) []with
   | .error e=>.error e
   | .ok (j,ps)=>.ok (j,[⟨3,⟨#[]⟩,txN L i,ps,(tkN L i).line,(tkN L i).col⟩]))
  else .error (i,1)
def QEc:Nat:=3*L.length+3
def Q6l(d:Qwa)(i:Nat):Rs (Nat × List Qwa):=
 match Qxb L (QEc L) (.body d 0) i with
 | .error e=>.error e
 | .ok (m,ds)=>match Qwb L [59] m with
  | .error e=>.error e
  | .ok q=>.ok (q,ds)
def Qrj(i:Nat):Rs (Nat × List Qwa):=
 if (tkN L i).kind=5 then(match Qja L 5 Qra i with
  | .error e=>.error e
  | .ok j=>match Qwb L [47] j with
   | .error e=>.error e
   | .ok k=>Q6l L ⟨1,txN L i,⟨#[47]⟩,[],(tkN L i).line,(tkN L i).col⟩ k)
 else if isK L i 4 [47]=true then Q6l L ⟨1,⟨#[]⟩,⟨#[47]⟩,[],(tkN L i).line,(tkN L i).col⟩ (i+1)
 else if (tkN L i).kind=6 then(match Qja L 6 Qra i with
  | .error e=>.error e
  | .ok j=>Q6l L ⟨1,⟨#[]⟩,⟨(38::(tkN L i).text).toArray⟩,[],(tkN L i).line,(tkN L i).col⟩ j)
 else if isK L i 7 [105,110,99,108,117,100,101]=true then QVd L 6 3 [] (fun _=>true) i
 else if isK L i 7 [100,101,108,101,116,101,45,110,111,100,101]=true then QVd L 5 6 [38] Qra i
 else .error (i,6)
def QDf:Nat→Nat→List Qwa→Rs (List Qwa)
 | 0,i,_=>.error (i,6)
 | n+1,i,acc=>
  if (tkN L i).kind=8 then .ok acc
  else(match Qrj L i with
   | .error e=>.error e
   | .ok (j,ds)=>QDf n j (acc++ds))
end
def Qoe(l:List UInt8)(file:Int):List Qwa × (Int × Int × Int) × Int:=
 if (QUb l file).2.2≠0 then([],(QUb l file).2.1,(QUb l file).2.2)
 else match QDf (QUb l file).1 (Qgb (QUb l file).1) 0 []with
  | .ok D=>(D,(0,0,0),0)
  | .error (k,c)=>([],(file,(tkN (QUb l file).1 k).line,(tkN (QUb l file).1 k).col),c)
structure Qoa where
 name:ByteArray
 text:ByteArray
abbrev FdT:=Int × Qwa
abbrev Qag:=Int × Int × Int
def Qef(x:FdT):Qag:=(x.1,x.2.line,x.2.col)
def QUd(file:Int)(D:List Qwa):List FdT:=D.map fun d=>(file,d)
def Q2b(F:List Qoa)(s:ByteArray):Option Nat:=F.findIdx? fun f=>decide (f.name=s)
abbrev QBb:=List (Int × List FdT)
def Qkd(g:QBb)(k:Nat):Option (List FdT):=(g.find? fun p=>decide (p.1=(k:Int))).map (·.2)
abbrev Lr:=Except (Qag × Int) (List ByteArray × QBb × List FdT)
def Qmb(before:Nat)(out:List FdT):Nat:=6000-before-out.length
def Q9d:FdT:=(0,⟨0,⟨#[]⟩,⟨#[]⟩,[],0,0⟩)
def Qza(go:List ByteArray→QBb→Nat→Nat→Lr)(F:List Qoa)(opn:List Nat)(before:Nat):List FdT→List ByteArray→QBb→List FdT→Lr
 | [],ord,giv,out=>.ok (ord,giv,out)
 | d::r,ord,giv,out=>
  let more:Lr:=if d.2.kind≠6 then .ok (ord,giv,[d])else
   match Q2b F d.2.name with
   | none=>.error (Qef d,4)
   | some k=>if opn.contains k=true then .error (Qef d,10)else
    match Qkd giv k with
    | some l=>.ok (ord,giv,l)
    | none=>go ord giv k (before+out.length)
  match more with
  | .error e=>.error e
  | .ok (ord,giv,m)=>if Qmb before out<m.length then .error (Qef (m.getD (Qmb before out) Q9d),3)else Qza go F opn before r ord giv (out++m)
def ldT(F:List Qoa):Nat→List Nat→List ByteArray→QBb→Nat→Nat→Lr
 | 0,_,_,_,_,_=>.error ((0,0,0),1)
 | f+1,opn,ord,giv,file,before=>
  let s:=Qoe (F.getD file ⟨⟨#[]⟩,⟨#[]⟩⟩).text.data.toList file
  if s.2.2≠0 then .error (s.2.1,s.2.2)else
  match Qza (ldT F f (opn++[file])) F (opn++[file]) before (QUd file s.1) (ord++[(F.getD file ⟨⟨#[]⟩,⟨#[]⟩⟩).name]) giv []with
  | .error e=>.error e
  | .ok (o,g,out)=>.ok (o,g++[((file:Int),out)],out)
def QBk:List Qoa→List Qoa→Bool
 | _,[]=>false
 | seen,f::r=>seen.any (fun g=>decide (g.name=f.name)) || QBk (seen++[f]) r
def QSb(F:List Qoa)(main:ByteArray):Lr:=
 if 8<F.length then .error ((0,0,0),3)else if QBk [] F=true then .error ((0,0,0),5)else
 match Q2b F main with
 | none=>.error ((0,0,0),4)
 | some k=>ldT F (F.length+1) [] [] [] k 0
def QIc(F:List Qoa)(main:ByteArray):List FdT × Qag × Int:=match QSb F main with
 | .error (p,e)=>([],p,e)
 | .ok (_,_,out)=>(out,(0,0,0),0)
def QQd(F:List Qoa)(main:ByteArray):List ByteArray × Int:=match QSb F main with
 | .error (_,e)=>([],e)
 | .ok (ord,_,_)=>(ord,0)
def Q4o(s:ByteArray):Bool:=decide (s=⟨#[47]⟩) || decide (s.data.toList.head? = some 38)
def stT(e:Nat)(d:Qwa):Option Nat:=
 if d.kind=1 then(if d.name≠⟨#[]⟩∧decide (e=0)=Q4o d.name then some (e+1)else none)
 else if d.kind=2 then(if e=0 then none else some (e-1))
 else if d.kind=3∨d.kind=4 then(if e=0 then none else some e)
 else if d.kind=6 then(if e=0 then some e else none)
 else some e
def QRf:Nat→List Qwa→Option Nat
 | e,[]=>some e
 | e,d::ds=>(stT e d).bind fun f=>QRf f ds
theorem Q5l:∀(a b:List Qwa) (e:Nat),QRf e (a++b)=(QRf e a).bind fun f=>QRf f b:=by
 intro a
 induction a with
 | nil=>intro b e;rfl
 | cons d a ih=>
  intro b e
  simp only[List.cons_append,QRf]
  cases stT e d with
  | none=>rfl
  | some f=>simpa using ih b f
theorem Qsm{c:UInt8}(h:Qka c.toNat=true∨decide ((c.toNat:Int)=95)=true):c≠47∧c≠38:=by
 constructor
 ·rintro rfl;revert h;decide
 ·rintro rfl;revert h;decide
theorem QWn{s:List UInt8}(h:Q1a s=true):(⟨s.toArray⟩:ByteArray)≠⟨#[]⟩∧Q4o ⟨s.toArray⟩=false:=by
 unfold Q1a at h
 simp only[Bool.and_eq_true,decide_eq_true_eq,Bool.or_eq_true]at h
 obtain⟨⟨⟨h1,_⟩,h2⟩,_⟩:=h
 cases s with
 | nil=>simp at h1
 | cons c s=>
  have hc:=Qsm (c:=c) (by simpa using h2)
  refine⟨fun e=>?_,?_⟩
  ·have:=congrArg (fun b:ByteArray=>b.data.toList.length) e
   simp at this
  ·unfold Q4o
   have e1:(⟨(c::s).toArray⟩:ByteArray)≠⟨#[47]⟩:=by
    intro e
    have:=congrArg (fun b:ByteArray=>b.data.toList) e
    simp at this
    exact hc.1 this.1
   have e2:¬((⟨(c::s).toArray⟩:ByteArray).data.toList.head? = some 38):=by simpa using hc.2
   rw[decide_eq_false e1,decide_eq_false e2];rfl
section
variable{L:List Tok}
def Asc(L:List Tok)(lo hi:Nat)(ds:List Qwa):Prop:=∃ks:List Nat,ds.map (fun d=>(d.line,d.col))=ks.map (fun k=>((tkN L k).line,(tkN L k).col))∧ks.Pairwise (· < ·)∧∀k∈ks,lo≤k∧k<hi∧(tkN L k).kind≠8
theorem Asc.nil(lo hi:Nat):Asc L lo hi []:=⟨[],rfl,.nil,fun k h=>by cases h⟩
theorem Asc.one{lo hi k:Nat}{d:Qwa}(h:d.line=(tkN L k).line∧d.col=(tkN L k).col)(h1:lo≤k)(h2:k<hi)(h8:(tkN L k).kind≠8):Asc L lo hi [d]:=⟨[k],by simp[h.1,h.2],by simp,fun q hq=>by simp at hq;subst hq;exact⟨h1,h2,h8⟩⟩
theorem Asc.app{lo mid mid2 hi:Nat}{a b:List Qwa}(h:Asc L lo mid a)(k:Asc L mid2 hi b)(hm:mid≤mid2)(h1:lo≤mid2)(h2:mid≤hi):Asc L lo hi (a++b):=by
 obtain⟨ks,e1,p1,q1⟩:=h
 obtain⟨js,e2,p2,q2⟩:=k
 refine⟨ks++js,by simp[e1,e2],List.pairwise_append.2 ⟨p1,p2,fun x hx y hy=>?_⟩,fun x hx=>?_⟩
 ·have:=q1 x hx;have:=q2 y hy;omega
 ·rcases List.mem_append.1 hx with hx|hx
  ·obtain⟨z1,z2,z3⟩:=q1 x hx;exact⟨by omega,by omega,z3⟩
  ·obtain⟨z1,z2,z3⟩:=q2 x hx;exact⟨by omega,by omega,z3⟩
theorem Asc.wide{lo hi lo2 Kc:Nat}{a:List Qwa}(h:Asc L lo hi a)(h1:lo2≤lo)(h2:hi≤Kc):Asc L lo2 Kc a:=by
 obtain⟨ks,e1,p1,q1⟩:=h
 exact⟨ks,e1,p1,fun x hx=>by obtain⟨z1,z2,z3⟩:=q1 x hx;exact⟨by omega,by omega,z3⟩⟩
theorem Qqf{i:Nat}{kind:Int}{s:List UInt8}(h:isK L i kind s=true)(hk:kind≠8):(tkN L i).kind≠8:=by
 unfold isK at h
 simp only[Bool.and_eq_true,decide_eq_true_eq]at h
 rw[h.1];exact hk
theorem QPg{s:List UInt8}{i j:Nat}(h:Qwb L s i = .ok j):j=i+1:=by
 unfold Qwb at h;split at h
 ·cases h;rfl
 ·cases h
theorem Qcf{kind:Int}{right:List UInt8→Bool}{i j:Nat}(h:Qja L kind right i = .ok j):j=i+1∧right (tkN L i).text=true:=by
 unfold Qja at h
 split at h
 ·split at h
  ·rename_i hr;cases h;exact⟨rfl,hr⟩
  ·cases h
 ·cases h
theorem QAk{kind what:Int}{before:List UInt8}{right:List UInt8→Bool}{i j:Nat}{ds:List Qwa}(h:QVd L kind what before right i = .ok (j,ds))(h8:(tkN L i).kind≠8):i<j∧Asc L i j ds∧∃d,ds=[d]∧d.kind=kind:=by
 unfold QVd at h
 cases h1:Qja L what right (i+1)with
 | error e=>rw[h1]at h;cases h
 | ok m=>
  rw[h1]at h
  simp only at h
  cases h2:Qwb L [59] m with
  | error e=>rw[h2]at h;cases h
  | ok q=>
   rw[h2]at h
   have e1:=(Qcf h1).1
   have e2:=QPg h2
   cases h
   exact⟨by omega,Asc.one (k:=i) ⟨rfl,rfl⟩ (Nat.le_refl _) (by omega) h8,_,rfl,rfl⟩
end
section
variable{L:List Tok}
theorem QPp{i:Nat}(h:(Q8b L i).2.2=0):i<(Q8b L i).2.1.toNat:=by
 unfold Q8b at h ⊢
 obtain⟨r,e1,e2⟩:=QXf (L.map tkX) (40*(L.map tkX).length+40) .prim 0 i trivial (by simp only[QKc];omega)
 have hE:evF (L.map tkX) .prim 0 i=r:=by unfold evF;rw[e1];rfl
 rw[hE]at h ⊢
 cases r with
 | none=>simp[QSf]at h
 | some q=>
  have Hh:=(e2 q rfl).2 rfl
  obtain⟨v,j,p,g,d⟩:=q
  simp only[QSf]at h Hh ⊢
  cases p <;> cases g <;> cases d <;> simp at h ⊢
  exact Hh
theorem QEn:∀(n i:Nat) (acc cs:List QJb) (j:Nat),Q1b L n i acc = .ok (j,cs)→i<j:=by
 intro n
 induction n with
 | zero=>intro i acc cs j h;cases h
 | succ n ih=>
  intro i acc cs j h
  rw[Q1b]at h
  split at h
  ·cases h;omega
  ·split at h
   ·split at h
    ·have:=ih _ _ _ _ h;omega
    ·cases h
   ·split at h
    ·cases h
    ·rename_i hz
     have h0:=QPp (L:=L) (i:=i) (by simpa using hz)
     have:=ih _ _ _ _ h;omega
theorem QCn:∀(n i:Nat) (acc b:List UInt8) (j:Nat),Q8c L n i acc = .ok (j,b)→i<j:=by
 intro n
 induction n with
 | zero=>intro i acc b j h;cases h
 | succ n ih=>
  intro i acc b j h
  rw[Q8c]at h
  split at h
  ·cases h;omega
  ·split at h
   ·cases h
   ·split at h
    ·cases h
    ·have:=ih _ _ _ _ h;omega
theorem QGe{i j:Nat}{p:QRa}(h:Qsb L i = .ok (j,p)):i<j:=by
 unfold Qsb at h
 split at h
 ·cases h;omega
 ·split at h
  ·split at h
   ·cases h;omega
   ·cases h
  ·split at h
   ·cases hc:Q1b L (Qgb L) (i+1) []with
    | error e=>rw[hc]at h;cases h
    | ok q=>rw[hc]at h;obtain⟨m,cs⟩:=q;have:=QEn _ _ _ _ _ hc;cases h;omega
   ·split at h
    ·cases hc:Q8c L (Qgb L) (i+1) []with
     | error e=>rw[hc]at h;cases h
     | ok q=>rw[hc]at h;obtain⟨m,cs⟩:=q;have:=QCn _ _ _ _ _ hc;cases h;omega
    ·cases h
theorem Q9n:∀(n:Nat) (sep:List UInt8) (i:Nat) (acc ps:List QRa) (j:Nat),Qvb L n sep i acc = .ok (j,ps)→i≤j:=by
 intro n
 induction n with
 | zero=>intro sep i acc ps j h;cases h
 | succ n ih=>
  intro sep i acc ps j h
  rw[Qvb]at h
  split at h
  ·cases hp:Qsb L (i+1)with
   | error e=>rw[hp]at h;cases h
   | ok q=>
    rw[hp]at h
    obtain⟨m,p⟩:=q
    have h1:=QGe hp
    have:=ih _ _ _ _ _ h
    omega
  ·cases h;omega
def Qir(L:List Tok)(n:Nat):Prop:=∀d dp i j ds,Qxb L n (.body d dp) i = .ok (j,ds)→∃rest,ds=d::rest∧i<j∧Asc L i j rest∧∀e,QRf (e+1) rest=some e
def Qlr(L:List Tok)(n:Nat):Prop:=∀dp acc i j ds,Qxb L n (.mems dp acc) i = .ok (j,ds)→∃rest,ds=acc++rest∧i<j∧Asc L i j rest∧∀e,QRf (e+1) rest=some e
def Qkr(L:List Tok)(n:Nat):Prop:=∀dp i j ds,Qxb L n (.member dp) i = .ok (j,ds)→i<j∧Asc L i j ds∧∀e,QRf (e+1) ds=some (e+1)
def Qmr(L:List Tok)(n:Nat):Prop:=∀dp i j ds,Qxb L n (.named dp) i = .ok (j,ds)→(tkN L i).kind=1→i<j∧Asc L i j ds∧∀e,QRf (e+1) ds=some (e+1)
theorem QCm{d:Qwa}{s:List UInt8}{rest:List Qwa}{e:Nat}(hk:d.kind=1)(hn:d.name=⟨s.toArray⟩)(hs:Q1a s=true)(hr:QRf (e+1+1) rest=some (e+1)):QRf (e+1) (d::rest)=some (e+1):=by
 obtain⟨h1,h2⟩:=QWn hs
 have:stT (e+1) d=some (e+1+1):=by
  unfold stT
  rw[if_pos hk,hn,if_pos ⟨h1,by rw[h2];simp⟩]
 simp only[QRf,this,Option.bind_some]
 exact hr
theorem QRg(L:List Tok):∀n,Qir L n∧Qlr L n∧Qkr L n∧Qmr L n:=by
 intro n
 induction n with
 | zero=>exact⟨fun d dp i j ds h=>(by cases h),fun dp acc i j ds h=>(by cases h),fun dp i j ds h=>(by cases h),fun dp i j ds h _=>(by cases h)⟩
 | succ n ih=>
  obtain⟨hB,hM,hm,hN⟩:=ih
  refine⟨fun d dp i j ds h=>?_,fun dp acc i j ds h=>?_,fun dp i j ds h=>?_,fun dp i j ds h qd=>?_⟩
  ·rw[Qxb]at h
   split at h
   ·split at h
    ·cases h
    ·obtain⟨rest,e1,h1,h2,h3⟩:=hM _ _ _ _ _ h
     exact⟨rest,e1,by omega,h2.wide (by omega) (Nat.le_refl _),h3⟩
   ·cases h
  ·rw[Qxb]at h
   split at h
   ·rename_i hk
    cases h
    exact⟨_,rfl,by omega,Asc.one (k:=i) ⟨rfl,rfl⟩ (Nat.le_refl _) (by omega) (Qqf hk (by decide)),fun e=>rfl⟩
   ·cases h1:Qxb L n (.member dp) i with
    | error e=>rw[h1]at h;cases h
    | ok q=>
     rw[h1]at h
     obtain⟨m,xs⟩:=q
     obtain⟨a1,a2,a3⟩:=hm _ _ _ _ h1
     obtain⟨rest,e1,b1,b2,b3⟩:=hM _ _ _ _ _ h
     refine⟨xs++rest,by rw[e1,List.append_assoc],by omega,a2.app b2 (Nat.le_refl _) (by omega) (by omega),fun e=>?_⟩
     rw[Q5l,a3 e]
     exact b3 e
  ·rw[Qxb]at h
   split at h
   ·rename_i sv
    cases h1:Qja L 5 Qra i with
    | error e=>rw[h1]at h;cases h
    | ok a=>
     rw[h1]at h
     simp only at h
     cases h2:Qja L 1 Q1a a with
     | error e=>rw[h2]at h;cases h
     | ok b=>
      rw[h2]at h
      simp only at h
      obtain⟨r1,_⟩:=Qcf h1
      obtain⟨r2,r3⟩:=Qcf h2
      cases h3:Qxb L n (.body ⟨1,txN L i,txN L a,[],(tkN L i).line,(tkN L i).col⟩ (dp+1)) b with
      | error e=>rw[h3]at h;cases h
      | ok q=>
       rw[h3]at h
       obtain⟨m,xs⟩:=q
       simp only at h
       obtain⟨rest,e1,b1,b2,b3⟩:=hB _ _ _ _ _ h3
       cases h4:Qwb L [59] m with
       | error e=>rw[h4]at h;cases h
       | ok q=>
        rw[h4]at h
        have e2:=QPg h4
        cases h
        subst e1
        refine⟨by omega,?_,fun e=>QCm rfl rfl r3 (b3 (e+1))⟩
        exact(Asc.one (k:=i) (hi:=i+1) ⟨rfl,rfl⟩ (Nat.le_refl _) (by omega) (by rw[sv];decide)).app (b2.wide (Nat.le_refl _) (by omega)) (by omega) (by omega) (by omega)
   ·split at h
    ·rename_i qd
     cases h1:Qxb L n (.named dp) i with
     | error e=>rw[h1]at h;cases h
     | ok q=>
      rw[h1]at h
      obtain⟨m,xs⟩:=q
      simp only at h
      obtain⟨a1,a2,a3⟩:=hN _ _ _ _ h1 qd
      cases h4:Qwb L [59] m with
      | error e=>rw[h4]at h;cases h
      | ok q=>
       rw[h4]at h
       have e2:=QPg h4
       cases h
       exact⟨by omega,a2.wide (Nat.le_refl _) (by omega),a3⟩
    ·split at h
     ·rename_i kK
      obtain⟨a1,a2,d,rfl,a3⟩:=QAk h (Qqf kK (by decide))
      exact⟨a1,a2,fun e=>by simp[QRf,stT,a3]⟩
     ·split at h
      ·rename_i kK
       obtain⟨a1,a2,d,rfl,a3⟩:=QAk h (Qqf kK (by decide))
       exact⟨a1,a2,fun e=>by simp[QRf,stT,a3]⟩
      ·cases h
  ·rw[Qxb]at h
   split at h
   ·split at h
    ·rename_i hs
     obtain⟨rest,e1,b1,b2,b3⟩:=hB _ _ _ _ _ h
     subst e1
     refine⟨by omega,?_,fun e=>QCm rfl rfl hs (b3 (e+1))⟩
     exact(Asc.one (k:=i) (hi:=i+1) ⟨rfl,rfl⟩ (Nat.le_refl _) (by omega) (by rw[qd];decide)).app b2 (by omega) (by omega) (by omega)
    ·cases h
   ·split at h
    ·cases h1:Qvb L (Qgb L) [61] (i+1) []with
     | error e=>rw[h1]at h;cases h
     | ok q=>
      rw[h1]at h
      obtain⟨m,ps⟩:=q
      have:=Q9n _ _ _ _ _ _ h1
      cases h
      exact⟨by omega,Asc.one (k:=i) ⟨rfl,rfl⟩ (Nat.le_refl _) (by omega) (by rw[qd];decide),fun e=>by simp[QRf,stT]⟩
    ·cases h
end
section
variable{L:List Tok}
theorem QYn{d:Qwa}{rest:List Qwa}(hk:d.kind=1)(hn:d.name≠⟨#[]⟩)(ht:Q4o d.name=true)(hr:QRf (0+1) rest=some 0):QRf 0 (d::rest)=some 0:=by
 have:stT 0 d=some (0+1):=by
  unfold stT
  rw[if_pos hk,if_pos ⟨hn,by rw[ht];rfl⟩]
 simp only[QRf,this,Option.bind_some]
 exact hr
theorem Qlg{d:Qwa}{i j k lo:Nat}{ds:List Qwa}(h:Q6l L d i = .ok (j,ds))(hk:d.kind=1)(hn:d.name≠⟨#[]⟩)(ht:Q4o d.name=true)(hp:d.line=(tkN L k).line∧d.col=(tkN L k).col)(h1:lo≤k)(h2:k<i)(h8:(tkN L k).kind≠8):i<j∧Asc L lo j ds∧QRf 0 ds=some 0:=by
 unfold Q6l at h
 cases h3:Qxb L (QEc L) (.body d 0) i with
 | error e=>rw[h3]at h;cases h
 | ok q=>
  rw[h3]at h
  obtain⟨m,xs⟩:=q
  simp only at h
  obtain⟨rest,e1,b1,b2,b3⟩:=(QRg L (QEc L)).1 _ _ _ _ _ h3
  cases h4:Qwb L [59] m with
  | error e=>rw[h4]at h;cases h
  | ok q=>
   rw[h4]at h
   have e2:=QPg h4
   cases h
   subst e1
   exact⟨by omega,(Asc.one (k:=k) (hi:=k+1) hp h1 (by omega) h8).app (b2.wide (Nat.le_refl _) (by omega)) (by omega) (by omega) (by omega),QYn hk hn ht (b3 0)⟩
theorem Q8o(s:List UInt8):(⟨(38::s).toArray⟩:ByteArray)≠⟨#[]⟩∧Q4o ⟨(38::s).toArray⟩=true:=by
 refine⟨fun e=>?_,?_⟩
 ·have:=congrArg (fun b:ByteArray=>b.data.toList.length) e
  simp at this
 ·unfold Q4o
  have:(⟨(38::s).toArray⟩:ByteArray).data.toList.head? = some 38:=by simp
  rw[decide_eq_true this,Bool.or_true]
theorem Qqn{i j:Nat}{ds:List Qwa}(h:Qrj L i = .ok (j,ds)):i<j∧Asc L i j ds∧QRf 0 ds=some 0:=by
 have JH:(⟨#[47]⟩:ByteArray)≠⟨#[]⟩∧Q4o ⟨#[47]⟩=true:=by decide
 unfold Qrj at h
 split at h
 ·rename_i sv
  cases h1:Qja L 5 Qra i with
  | error e=>rw[h1]at h;cases h
  | ok a=>
   rw[h1]at h
   simp only at h
   have r1:=(Qcf h1).1
   cases h2:Qwb L [47] a with
   | error e=>rw[h2]at h;cases h
   | ok b=>
    rw[h2]at h
    have r2:=QPg h2
    obtain⟨a1,a2,a3⟩:=Qlg (k:=i) (lo:=i) h rfl JH.1 JH.2 ⟨rfl,rfl⟩ (Nat.le_refl _) (by omega) (by rw[sv];decide)
    exact⟨by omega,a2,a3⟩
 ·split at h
  ·rename_i kK
   obtain⟨a1,a2,a3⟩:=Qlg (k:=i) (lo:=i) h rfl JH.1 JH.2 ⟨rfl,rfl⟩ (Nat.le_refl _) (by omega) (Qqf kK (by decide))
   exact⟨by omega,a2,a3⟩
  ·split at h
   ·rename_i xg
    cases h1:Qja L 6 Qra i with
    | error e=>rw[h1]at h;cases h
    | ok a=>
     rw[h1]at h
     have r1:=(Qcf h1).1
     have nX:=Q8o (tkN L i).text
     obtain⟨a1,a2,a3⟩:=Qlg (k:=i) (lo:=i) h rfl nX.1 nX.2 ⟨rfl,rfl⟩ (Nat.le_refl _) (by omega) (by rw[xg];decide)
     exact⟨by omega,a2,a3⟩
   ·split at h
    ·rename_i kK
     obtain⟨a1,a2,d,rfl,a3⟩:=QAk h (Qqf kK (by decide))
     exact⟨a1,a2,by simp[QRf,stT,a3]⟩
    ·split at h
     ·rename_i kK
      obtain⟨a1,a2,d,rfl,a3⟩:=QAk h (Qqf kK (by decide))
      exact⟨a1,a2,by simp[QRf,stT,a3]⟩
     ·cases h
theorem QKl:∀(n i:Nat) (acc D:List Qwa),QDf L n i acc = .ok D→Asc L 0 i acc→QRf 0 acc=some 0→∃hi,Asc L 0 hi D∧QRf 0 D=some 0:=by
 intro n
 induction n with
 | zero=>intro i acc D h;cases h
 | succ n ih=>
  intro i acc D h ha hd
  rw[QDf]at h
  split at h
  ·cases h;exact⟨i,ha,hd⟩
  ·cases h1:Qrj L i with
   | error e=>rw[h1]at h;cases h
   | ok q=>
    rw[h1]at h
    obtain⟨j,ds⟩:=q
    obtain⟨a1,a2,a3⟩:=Qqn h1
    exact ih _ _ _ h (ha.app a2 (Nat.le_refl _) (by omega) (by omega)) (by rw[Q5l,hd];exact a3)
end
theorem Qiq(l:List UInt8)(file:Int):((Qoe l file).2.2=0∧QRf 0 (Qoe l file).1=some 0∧∃hi,Asc (QUb l file).1 0 hi (Qoe l file).1∧(QUb l file).2.2=0)∨((Qoe l file).2.2≠0∨(Qoe l file).1=[]):=by
 unfold Qoe
 split
 ·exact .inr (.inr rfl)
 ·rename_i h0
  cases h:QDf (QUb l file).1 (Qgb (QUb l file).1) 0 []with
  | error e=>exact .inr (.inr rfl)
  | ok D=>
   obtain⟨hi,a1,a2⟩:=QKl _ _ _ _ h (Asc.nil _ _) rfl
   exact .inl ⟨rfl,a2,hi,a1,by simpa using h0⟩
theorem Qxm(r:List UInt8):Q1a (97::r)=Q1a (95::r):=by
 unfold Q1a
 simp[QUc,show Qka 97=true from by decide,show Q9a 97=true from by decide,show Q9a 95=true from by decide,show Qka 95=false from by decide]
theorem Qzg(r:List UInt8):Q5b (35::r)=(Q1a (97::r) && !QYd r 64):=by
 unfold Q5b
 rw[if_pos (by simp[Lib.hasPrefix]),Qxm]
 simp[QYd]
theorem Qvf(c:UInt8)(r:List UInt8)(h:c.toNat≠35):Q5b (c::r)=(Q1a (c::r) && !QYd (c::r) 64):=by
 unfold Q5b
 rw[if_neg (by simp[Lib.hasPrefix];intro e;exact h (by rw[←e];rfl))]
theorem Qco(l:List UInt8)(h:¬(1≤l.length∧l.length≤31)):Q5b l=false:=by
 cases l with
 | nil=>rfl
 | cons c r=>
  by_cases hc:c.toNat=35
  ·have:c=35:=UInt8.toNat_inj.1 hc
   subst this
   rw[Qzg];unfold Q1a
   rw[show decide (1≤(97::r:List UInt8).length∧(97::r:List UInt8).length≤31)=false from by simpa using h];rfl
  ·rw[Qvf c r hc];unfold Q1a
   rw[decide_eq_false h];rfl
theorem QRp(l:List UInt8)(h:QYd l 64=true):Q5b l=false:=by
 cases l with
 | nil=>rfl
 | cons c r=>
  by_cases hc:c.toNat=35
  ·have:c=35:=UInt8.toNat_inj.1 hc
   subst this
   rw[Qzg,show QYd r 64=true from by simpa[QYd]using h];simp
  ·rw[Qvf c r hc,h];simp
theorem Qai(s:ByteArray)(w:World)(hs:s.size≤9223372036854775807) :
 Calls Tryz.prog 107 #[.string s] w fun e w'=>e = .returned (.bool (Q6e s))∧w=w':=by
 by_cases hl:1≤s.size∧s.size≤31
 ·obtain⟨h1,h2⟩:=hl
  go_enter Tryz.func107,Tryz.ntmps107
  go_wp2_with fail
  go_loop [3] (fun i=>∃k:Nat,k≤s.size∧i = .int .i64 k∧Hid (QYd s.data.toList 64=QYd (s.data.toList.drop k) 64)) (fun i=>s.size-(intOf i).toNat)
  case atStart=>exact⟨0,Nat.zero_le _,rfl,rfl⟩
  case round=>
   obtain⟨k,hk,rfl,hB⟩:=hrel
   by_cases Hh:k<s.size
   ·have hD:=hid (QBa s k Hh)
    by_cases h64:s[k].toNat=64
    ·have hP:=hid (show Q6e s=false from QRp _ (by rw[hB.out,hD.out,Q4d,h64];rfl))
     have sw:((s[k].toNat:Int) == 64)=true:=by simp[h64]
     clear h64
     go_wp2_with fail
     go_ret
     exact⟨Qla (by rw[hP.out]),rfl⟩
    ·have sw:((s[k].toNat:Int) == 64)=false:=by simp;omega
     have hS:=hid (show QYd s.data.toList 64=QYd (s.data.toList.drop (k+1)) 64 from by
      rw[hB.out,hD.out,Q4d,show decide (((s[k].toNat:Nat):Int)=64)=false from by simp;omega];rfl)
     clear h64
     go_wp2_with fail
     go_round
     case rel=>exact⟨k+1,by omega,by go_num,hS⟩
     case measure=>simp[intOf];omega
   ·have hM:=hid (show QYd s.data.toList 64=false from by rw[hB.out,Qdb s k (by omega)];rfl)
    have hD:=hid (show s.data.toList=s[0]::s.data.toList.drop 1 from by have:=QBa s 0 h1;rw[List.drop_zero]at this;exact this)
    clear hB hk
    by_cases h35:s[0].toNat=35
    ·have ss:((s[0].toNat:Int) == 35)=true:=by simp[h35]
     have hP:=hid (show Q6e s=Q1a (97::s.data.toList.drop 1)from by
      have G1:=hM.out
      unfold Q6e
      rw[hD.out]at G1 ⊢
      rw[Q4d]at G1
      have e:s[0]=35:=UInt8.toNat_inj.1 h35
      rw[e]at G1 ⊢
      rw[Qzg]
      simp at G1
      simp[G1])
     by_cases gP:s.size=1
     ·have ph:((s.size:Int) == 1)=true:=by simp;omega
      have GR:=hid (show Q6e s=true from by rw[hP.out,List.drop_eq_nil_of_le (by simp;omega)];decide)
      clear h35 gP
      go_wp2_with fail
      go_ret
      exact⟨Qla (by rw[GR.out]),rfl⟩
     ·have ph:((s.size:Int) == 1)=false:=by simp;omega
      obtain⟨c,Kj,Hx,og⟩:=Qsk ⟨#[97]⟩ (s.extract 1 s.size) (by rw[show(⟨#[97]⟩:ByteArray).size=1 from rfl];simp;omega)
      have vn:c.size≤maxLen:=by rw[Hx,show(⟨#[97]⟩:ByteArray).size=1 from rfl];simp;unfold maxLen;omega
      have Ko:=hid (Qbi c · vn)
      have GR:=hid (show Q1a c.data.toList=Q6e s from by rw[hP.out,og,Qzi];rfl)
      clear h35 gP Hx og vn
      go_wp2_with fail
      refine(Ko.out _).mono ?_
      rintro e w' ⟨rfl,rfl⟩
      go_wp2_with fail
      go_ret
      exact⟨Qla GR.out,rfl⟩
    ·have ss:((s[0].toNat:Int) == 35)=false:=by simp;omega
     have hP:=hid (show Q1a s.data.toList=Q6e s from by
      have G1:=hM.out
      unfold Q6e
      rw[hD.out]at G1 ⊢
      rw[Qvf _ _ h35,G1];simp)
     clear h35
     go_wp2_with fail
     refine(Qbi s _ (by unfold maxLen;omega)).mono ?_
     rintro e w' ⟨rfl,rfl⟩
     go_wp2_with fail
     go_ret
     exact⟨Qla hP.out,rfl⟩
 ·have hP:=hid (show Q6e s=false from Qco _ (by simpa using hl))
  have Hx:(s.size:Int)<1∨(1≤(s.size:Int)∧31<(s.size:Int)):=by omega
  clear hl
  rcases Hx with h|⟨h,h'⟩
  all_goals
   go_enter Tryz.func107,Tryz.ntmps107
   go_wp2_with fail
   go_ret
   exact⟨Qla (by rw[hP.out]),rfl⟩
end Go.Proofs.YtofhcgbihonckaaGreat
