/- Contracts of bringupref03: walk. | Contracts of bringupref03: ordered. | Contracts of bringupref03: Check, the same as Check of tree. | Contracts of bringupref03: path, Path, find, begin. | Contracts of bringupref03: copied. An append of nothing, whatever its address. | bringupref13: before, Put. | Contracts of package walk: slices.Clone of properties. | Contracts of bringupref03: Sorted. | Contracts of bringupref03: Add. | Contracts of bringupref03: Put. -/
import Derived.Test.YtgaboghigefgbaaGreatDoorZ14
import Derived.Test.YtgaboghigefgbaaGreatDoorZ13
import Derived.Test.YtgaboghigefgbaaGreatDoorZ1
import Derived.Deep.DeepCutAuto
import Derived.Deep.CutBlock
import Derived.Deep.AppendLies
import Derived.Laws.AppendOwnNone
import Derived.ArgAppend
import Derived.Deep.LoopGhost
import Derived.BigQuiet
set_option linter.all false
set_option maxHeartbeats 8000000
namespace Go.Proofs.YtgaboghigefgbaaGreatDoor
open Go.Lib (hid)
open Go.RowKit
def Qna(l:List Nat):List Value:=l.map fun(k:Nat)=>Value.int .i64 (k:Int)
theorem QOe(l:List Nat):∀u∈Qna l,u.oneCell'=true:=by
 intro u hu;obtain⟨k,_,rfl⟩:=List.mem_map.1 hu;rfl
theorem QEk(l:List Nat):(Qna l).length=l.length*1:=by simp[Qna]
theorem Qsp:(Tryz.prog.info? 3).map (fun i=>(i.zero,i.size,i.bytes))=some (some (.int .i64 0),1,8):=by kernel_rfl
theorem QUg{f g:Nat→List Nat}:∀l:List Nat,(∀c∈l,f c=g c)→l.flatMap f=l.flatMap g
 | [],_=>rfl
 | x::l,h=>by rw[List.flatMap_cons,List.flatMap_cons,h x (by simp),QUg l (fun c hc=>h c (by simp[hc]))]
theorem QDo{T:List Qba}(h:Par T):∀(f g u:Nat),u<T.length→T.length≤u+f→T.length≤u+g→QYa T f u=QYa T g u:=by
 intro f
 induction f with
 | zero=>intro g u hu hf;omega
 | succ f ih=>
  intro g u hu hf hg
  obtain⟨g,rfl⟩:∃x,g=x+1:=⟨g-1,by omega⟩
  simp only[QYa]
  congr 1
  refine QUg _ fun c hc=>?_
  obtain⟨h1,h2,h3⟩:=(QQc T u c).1 hc
  have:=(h c h2 h1).2
  exact ih g c h1 (by omega) (by omega)
theorem Qed(w:World)(a b:Nat):(w.drewN a).drewN b=w.drewN (a+b):=by
 unfold World.drewN;simp[Nat.add_assoc]
theorem QSn(c n:ByteArray):(ltS n c=true∧Op.bytesLess c.toList n.toList=false∧(c.toList == n.toList)=false)∨(ltS n c=false∧Op.bytesLess c.toList n.toList=true)∨(ltS n c=false∧Op.bytesLess c.toList n.toList=false∧(c.toList == n.toList)=true):=by
 cases h:ltS n c with
 | true=>
  left
  refine⟨rfl,?_,?_⟩
  ·cases k:Op.bytesLess c.toList n.toList with
   | false=>rfl
   | true=>have:=Q3b h k;rw[Q4a]at this;cases this
  ·cases k:(c.toList == n.toList)with
   | false=>rfl
   | true=>have e:=(Qxa c n).1 k;subst e;rw[Q4a]at h;cases h
 | false=>
  right
  rcases Qjd h with e|e
  ·subst e;right;exact⟨rfl,Q4a n,by simp⟩
  ·left;exact⟨rfl,e⟩
theorem QPr{w:World}{base:Nat}{e:TypeId}{g n cap:Nat}{xs:List Value}(h:w.ownsRow base e 1 (.slice (some ⟨g,0,none⟩) n cap) n xs)(p:Nat):∀j u,(xs.drop p)[j]? = some u→w.cell? ((⟨g,p,none⟩:Addr).add j)=some u:=by
 intro j u hu
 have Gq:(⟨g,p,none⟩:Addr).add j=⟨g,p+j,none⟩:=by unfold Addr.add;split <;> simp_all
 rw[List.getElem?_drop]at hu
 have hj:=(List.getElem?_eq_some_iff.1 hu).1
 rw[Gq,h.cellAt (p+j) (by have:=h.1;omega),hu]
theorem Q7m{w:World}{base:Nat}{e:TypeId}{g n cap:Nat}{xs:List Value}(h:w.ownsRow base e 1 (.slice (some ⟨g,0,none⟩) n cap) n xs)(p:Nat):∀j u,(xs.take p)[j]? = some u→w.cell? ((⟨g,0,none⟩:Addr).add j)=some u:=by
 intro j u hu
 have Gq:(⟨g,0,none⟩:Addr).add j=⟨g,j,none⟩:=by unfold Addr.add;split <;> simp_all
 have hj:=(List.getElem?_eq_some_iff.1 hu).1
 simp at hj
 rw[List.getElem?_take,if_pos (by omega)]at hu
 rw[Gq,h.cellAt j (by have:=h.1;omega),hu]
theorem Qzj(l:List Nat)(p:Nat):Qna (l.drop p)=(Qna l).drop p:=by simp[Qna,List.map_drop]
theorem Qdg(l:List Nat)(p:Nat):Qna (l.take p)=(Qna l).take p:=by simp[Qna,List.map_take]
def Qdh(T:List Qba)(u:Nat)(w:World)(e:Ending)(w':World):Prop:=
 ∃rv,e = .returned rv∧w'.ownsRow w.heap.size 3 1 rv (QYa T (T.length-u) u).length (Qna (QYa T (T.length-u) u))∧Below w.heap.size w w'
theorem Q3p(T:List Qba)(i c:Nat)(l:List Nat):QEi T i (c::l)=if ltS (Qwa T i) (Qwa T c)=true then 0 else 1+QEi T i l:=by
 unfold QEi
 by_cases h:ltS (Qwa T i) (Qwa T c)=true
 ·simp[h]
 ·simp[h];omega
theorem Q4p(T:List Qba)(i:Nat)(l:List Nat)(p:Nat)(hp:p<l.length):QEi T i (l.drop p)=if ltS (Qwa T i) (Qwa T l[p])=true then 0 else 1+QEi T i (l.drop (p+1)):=by
 rw[List.drop_eq_getElem_cons hp,Q3p]
def QLo(T:List Qba)(u:Nat)(w:World)(a:Option Addr)(cap:Nat)(f:Nat)(x y:Value)(wr:World):Prop:=
 ∃k:Nat,x = .int .i64 k∧k≤T.length∧T.length≤k+f∧wr.ownsRow (w.heap.size+1+1) 3 1 y (Qvd T u k).length (Qna (Qvd T u k))∧(Qvd T u k=[]→y = .slice none 0 0)∧
  Holds wr w.heap.size #[.slice a T.length cap] 27∧Holds wr (w.heap.size+1) #[.int .i64 u] 3∧Below w.heap.size w wr
theorem Qkp{f:Nat→List Nat}(l:List Nat)(j:Nat):((l.take j).flatMap f).length≤(l.flatMap f).length:=by
 have h:l.flatMap f=(l.take j).flatMap f++(l.drop j).flatMap f:=by rw[←List.flatMap_append,List.take_append_drop]
 rw[h,List.length_append];omega
theorem Qjp{f:Nat→List Nat}(l:List Nat)(j:Nat)(h:j<l.length):(l.take (j+1)).flatMap f=(l.take j).flatMap f++f l[j]:=by
 rw[List.take_succ_eq_append_getElem h,List.flatMap_append];simp
def Qwt(T:List Qba)(u:Nat)(w:World)(a:Option Addr)(cap:Nat)(cv:Value)(f:Nat)(x y:Value)(wr:World):Prop:=
 ∃j:Nat,x = .int .i64 j∧j≤(QDa T u).length∧(QDa T u).length≤j+f∧
  wr.ownsRow (w.heap.size+1) 3 1 y (u::((QDa T u).take j).flatMap (QYa T (T.length-u-1))).length (Qna (u::((QDa T u).take j).flatMap (QYa T (T.length-u-1))))∧
  wr.ownsRow (w.heap.size+1+1) 3 1 cv (QDa T u).length (Qna (QDa T u))∧(cv.ownBlock=none∨cv.ownBlock≠y.ownBlock)∧Holds wr w.heap.size #[.slice a T.length cap] 27∧Below w.heap.size w wr
set_option maxRecDepth 100000 in
theorem QWk(R:Nat→Prop)(v:Value)(T:List Qba)(Gv:Par T)(hl:T.length≤120):∀(m u:Nat) (w:World),Qpa R w v T→u<T.length→T.length-u≤m→
 Calls Tryz.prog 129 #[.agg #[v],.int .i64 u] w (Qdh T u w):=by
 intro m
 induction m with
 | zero=>intro u w _ hu hm;omega
 | succ m ih=>
  intro u w hT hu hm
  obtain⟨a,cap,rfl,gM,gB⟩:=hT.shape
  have HT:=hid hT;clear hT
  have HP:=hid Gv
  have IH:=hid ih;clear ih
  clear Gv
  go_enter Tryz.func129,Tryz.ntmps129
  go_wp2_with fail
  go_loopg [18,6] (T.length) (fun f x y wr=>QLo T u w a cap f x y wr)
  case atStart=>exact⟨0,rfl,by omega,by omega,by exact World.ownsRow_nil _ _ _ _,fun _=>rfl,(Holds.new w _ _).alloc _,Holds.newAt (w:=w.alloc _) (by simp) _ _,((Below.refl _ _).alloc (Nat.le_refl _) _).alloc (by simp) _⟩
  case round=>
   obtain⟨go,rfl⟩:∃x:Nat,x=gk:=⟨_,rfl⟩
   obtain⟨wo,rfl⟩:∃x:World,x=wr:=⟨_,rfl⟩
   obtain⟨k,rfl,hk,hf,Hj,hnil,hX,hO,hb⟩:=hrel
   obtain⟨cv,rfl⟩:∃x:Value,x=u6:=⟨_,rfl⟩
   have H3:=hb.size
   by_cases Hh:k<T.length
   ·obtain⟨g,o,pa,pc,rfl,hg,c0,c1,c2,hp,p1,p2,b0,b1,b2⟩:=(HT.out.new hb).at k Hh
    by_cases hkid:k≠0∧QTa T k=(u:Int)
    ·obtain⟨GF,pJ⟩:=hkid
     have Mm:=hid (show Qvd T u (k+1)=Qup T k (Qvd T u k)from by simp only[Qvd];rw[if_pos ⟨GF,pJ⟩])
     have e1:(T[k].parent != (u:Int))=false:=by rw[Qsa Hh]at pJ;simp[pJ]
     have e2:((k:Int) == 0)=false:=by simp;omega
     clear GF pJ
     have kH:=(Q1d T u k).1
     have sJ:=QSh T u k
     have zY:=hid (show ∀(p:Nat) (hp:p<(Qvd T u k).length),(Qvd T u k)[p]<T.length from fun p hp=>by have:=((kH _).1 (List.getElem_mem hp)).1;omega)
     clear kH
     have JQ:=hid hnil
     clear hnil
     generalize Qvd T u k=l at *
     have uV:=hX.alloc (.cells #[.int .i64 T[k].parent,.string T[k].name,.slice pa T[k].props.length pc] 46)
     have aA:=Holds.new wo #[.int .i64 T[k].parent,.string T[k].name,.slice pa T[k].props.length pc] 46
     have Mi:=hb.alloc H3 (.cells #[.int .i64 T[k].parent,.string T[k].name,.slice pa T[k].props.length pc] 46)
     have Mq:=World.ownsRow.alloc Hj (.cells #[.int .i64 T[k].parent,.string T[k].name,.slice pa T[k].props.length pc] 46)
     go_upto_block 2 with fail
     go_cut [9] (fun y wx=>∃n,y = .int .i64 (QEi T k l)∧(wo.alloc (.cells #[.int .i64 T[k].parent,.string T[k].name,.slice pa T[k].props.length pc] 46)).drewN n=wx)
     case first=>
      obtain⟨ca,cc,rfl⟩:=Qea Mq
      go_wp2_with fail
      go_loopg [9] (l.length) (fun f y wx=>∃p n:Nat,y = .int .i64 p∧p≤l.length∧l.length≤p+f∧Hid (QEi T k l=p+QEi T k (l.drop p))∧(wo.alloc (.cells #[.int .i64 T[k].parent,.string T[k].name,.slice pa T[k].props.length pc] 46)).drewN n=wx)
      case atStart=>exact⟨0,0,rfl,by omega,by omega,by simp[Hid],rfl⟩
      case round=>
       obtain⟨p,n,rfl,hp,Jv,hS,rfl⟩:=hrel
       have x0:=uV.cell 0
       have xl:=uV.lt
       by_cases gU:p<l.length
       ·have BH:(p:Int)<(l.length:Int):=by omega
        obtain⟨cg,xT⟩:∃cg,ca=some ⟨cg,0,none⟩:=by
         rcases Mq.2 with⟨_,h0⟩|⟨g',cp,cur,e,_⟩
         ·omega
         ·exact⟨g',by cases e;rfl⟩
        subst xT
        have gN:=(Mq.lt cg rfl).2
        have J6:=Mq.cellAt p (by omega)
        rw[show(Qna l)[p]? = some (.int .i64 (l[p]:Int))from by simp[Qna,gU]]at J6
        have GR:=zY.out p gU
        obtain⟨g',o',pa',pc',e',hg',d0,d1,d2,hp',q1,q2,r0,r1,r2⟩:=(HT.out.new Mi).at (l[p]) GR
        cases e'
        have Hk:=hid (Q4p T k l p gU)
        have n1:=aA.cell 1
        have mQ:=aA.lt
        clear hp' d0 d2
        have ah:=QSn (T[l[p]]).name T[k].name
        rcases ah with⟨k7,o1,o2⟩|⟨k7,o1⟩|⟨k7,o1,o2⟩
        ·have hE:=hid (show QEi T k l=p from by rw[hS.out,Hk.out,if_pos (by rw[QEa Hh,QEa GR];exact k7)];omega)
         clear k7
         go_wp2_with fail
         go_quiet (fail)
         go_wp2_with fail
         go_meet
         exact⟨_,by rw[hE.out],(Qed _ _ _).symm⟩
        all_goals
         have hE:=hid (show QEi T k l=(p+1:Nat)+QEi T k (l.drop (p+1))from by rw[hS.out,Hk.out,if_neg (by rw[QEa Hh,QEa GR,k7];simp)];omega)
         clear k7
         go_wp2_with fail
         go_quiet (fail)
         go_wp2_with fail
         go_roundg (gk-1)
         case measure=>omega
         case rel=>exact⟨p+1,_,by go_num,by omega,by omega,hE,rfl⟩
       ·have BH:¬(p:Int)<(l.length:Int):=by omega
        have hE:=hid (show QEi T k l=p from by rw[hS.out,List.drop_eq_nil_of_le (by omega)];rfl)
        have hd:decide ((p:Int)<(l.length:Int))=false:=by simpa using BH
        go_wp2_with fail
        go_quiet (fail)
        go_wp2_with fail
        go_meet
        exact⟨_,by rw[hE.out],(Qed _ _ _).symm⟩
     case rest=>
      obtain⟨n,rfl,hw⟩:=hcut
      have rD:Holds wc w.heap.size #[.slice (some ⟨g,o,none⟩) T.length cap] 27:=by rw[←hw];exact uV.drewN n
      have o9:Holds wc (w.heap.size+1) #[.int .i64 u] 3:=by rw[←hw];exact(hO.alloc _).drewN n
      have mf:Below w.heap.size w wc:=by rw[←hw];exact QIa Mi n
      have JC:wc.ownsRow (w.heap.size+1+1) 3 1 cv l.length (Qna l):=by rw[←hw];exact Mq
      clear hw uV aA Mi Mq hX hO hb Hj zY c0 c1 c2
      have zw:=mf.size
      have gU:QEi T k l≤l.length:=(List.takeWhile_sublist _).length_le
      have eP:=hid (show Qup T k l=l.take (QEi T k l)++k::l.drop (QEi T k l)from rfl)
      obtain⟨i0,hi,H4,Hp,gj⟩:=info_parts Qsp
      by_cases hl0:l=[]
      ·have jI:=JQ.out hl0
       subst jI
       subst hl0
       have ME:QEi T k []=0:=rfl
       rw[ME]
       clear ME JC gU
       go_wp2_with (first
        | (at_builtin;refine wpList_append_own_none rfl (.tmp 52) (.tmp 55) 22 rfl wc.heap.size 3 i0 1 Tryz.underlying22 hi (.slice (some ⟨wc.heap.size,0,none⟩) 1 1) 1 [.int .i64 k] rfl (by exact QRe (n:=1) rfl (Nat.le_refl _) rfl (by omega)) rfl ?_)
        | (at_builtin;refine wpList_append_own _ rfl (.tmp 60) (.tmp 61) 22 rfl (w.heap.size+1+1) 3 i0 (.int .i64 0) 1 8 Tryz.underlying22 hi H4 Hp gj rfl (by decide) (.slice none 0 0) 0 [] rfl (World.ownsRow_nil _ _ _ _) ⟨wc.heap.size,0,none⟩ 1 1 [.int .i64 k] rfl rfl ?c1 ?c2 ?c3 ?c4 ?c5 ?_))
       case c2=>rfl
       case c3=>unfold maxLen;omega
       case c5=>have:=o9.lt;simp;omega
       intro v' w6 Hg Hd _
       have xI:=(rD.alloc (.cells #[.int .i64 k] 3)).grown Hd (by simp[Value.ownBlock])
       have kX:=(o9.alloc (.cells #[.int .i64 k] 3)).grown Hd (by simp[Value.ownBlock])
       have gG:=(mf.alloc zw (.cells #[.int .i64 k] 3)).grown Hd (by simp;omega) (fun q hq=>by simp[Value.ownBlock]at hq)
       clear Hd
       obtain⟨va,vc,rfl⟩:=Qea Hg
       go_wp2_with fail
       go_roundg (go-1)
       case measure=>omega
       case rel=>exact⟨k+1,by go_num,by omega,by omega,by rw[Mm.out];exact Hg,(fun e=>by rw[Mm.out]at e;cases e),xI,kX,gG⟩
      ·obtain⟨cg,cc,jI,rL,ni⟩:∃cg cc,cv = .slice (some ⟨cg,0,none⟩) l.length cc∧l.length≤cc∧cc≤maxLen:=by
        rcases JC.2 with⟨_,h0⟩|⟨g',cp,cur,e,_,_,h1,h2,_⟩
        ·exact absurd (List.length_eq_zero_iff.1 h0) hl0
        ·exact⟨g',cp,e,h1,h2⟩
       subst jI
       unfold maxLen at ni
       generalize QEi T k l=p at *
       clear hl0
       have dE:=hid JC
       clear JC
       by_cases Kn:cc=p
       ·obtain rfl:p=l.length:=by omega
        obtain rfl:cc=l.length:=by omega
        go_wp2_with (at_builtin;refine wpList_append_own _ rfl (.tmp 52) (.tmp 55) 22 rfl wc.heap.size 3 i0 (.int .i64 0) 1 8 Tryz.underlying22 hi H4 Hp gj rfl (by decide) (.slice (some ⟨wc.heap.size,0,none⟩) 1 1) 1 [.int .i64 k] rfl (by exact QRe (n:=1) rfl (Nat.le_refl _) rfl (by omega)) ⟨cg,0,none⟩ 0 0 [] rfl (by simp) ?a1 ?a2 ?a3 ?a4 ?a5 ?_)
        case a3=>unfold maxLen;omega
        intro v10 w10 Kb Gt _
        have l6:=(rD.alloc (.cells #[.int .i64 k] 3)).grown Gt (fun e=>by have:wc.heap.size=w.heap.size:=Option.some.inj e;have:=rD.lt;omega)
        have my:=(o9.alloc (.cells #[.int .i64 k] 3)).grown Gt (fun e=>by have:wc.heap.size=w.heap.size+1:=Option.some.inj e;have:=o9.lt;omega)
        have kj:Below wc.heap.size wc w10:=((Below.refl wc.heap.size wc).alloc (Nat.le_refl _) (.cells #[.int .i64 k] 3)).grown Gt (by simp) (fun q hq=>by have:wc.heap.size=q:=Option.some.inj hq;omega)
        have GA:=Qhb dE.out kj
        have Gr:=mf.trans (kj.mono zw)
        clear Gt
        obtain⟨rg,rc,rfl,Hx,gd⟩:=Kb.form (by omega)
        have ja:=hid Kb
        have aZ:=hid GA
        have nU:=Gr.size
        have rn:=my.lt
        clear Kb GA
        go_wp2_with (at_builtin;refine wpList_append_grows _ rfl (.tmp 60) (.tmp 61) 22 rfl 3 i0 (.int .i64 0) 1 8 Tryz.underlying22 hi H4 Hp gj rfl (by decide) (some ⟨cg,0,none⟩) l.length l.length (Qna (l.take l.length)) rfl (by intro h;cases h) ?e0 ?e1 ⟨rg,0,none⟩ 1 rc ([.int .i64 k]) rfl ?e2 ?e3 ?e4 ?e5 ?e6 ?e7 ?_)
        case e0=>simp[Qna]
        case e1=>intro b Hc;cases Hc;rw[Qdg];exact Q7m aZ.out l.length
        case e2=>simp
        case e3=>exact ja.out.cells (g:=rg) rfl
        case e4=>
         intro x hx
         simp at hx;subst hx;rfl
        case e5=>omega
        case e6=>unfold maxLen;omega
        case e7=>omega
        intro v11 w11 gO H8
        have l7:=l6.grown H8 (by simp)
        have lS:=my.grown H8 (by simp)
        have kA:=Gr.grown H8 nU (fun q hq=>by cases hq)
        clear H8
        obtain⟨va,vc,rfl⟩:=Qea gO
        have g9:=Q8b gO (show w.heap.size+1+1≤w10.heap.size by omega)
        go_wp2_with fail
        go_roundg (go-1)
        case measure=>omega
        case rel=>exact⟨k+1,by go_num,by omega,by omega,by rw[Mm.out,Q7f,eP.out];simpa[Qna]using g9,(fun e=>by rw[Mm.out]at e;have:=congrArg List.length e;rw[Q7f]at this;simp at this),l7,lS,kA⟩
       ·have mF:p<cc:=by omega
        go_wp2_with (at_builtin;refine wpList_append_own _ rfl (.tmp 52) (.tmp 55) 22 rfl wc.heap.size 3 i0 (.int .i64 0) 1 8 Tryz.underlying22 hi H4 Hp gj rfl (by decide) (.slice (some ⟨wc.heap.size,0,none⟩) 1 1) 1 [.int .i64 k] rfl (by exact QRe (n:=1) rfl (Nat.le_refl _) rfl (by omega)) ⟨cg,p,none⟩ (l.length-p) (cc-p) (Qna (l.drop p)) rfl (by simp[Qna]) ?b1 ?b2 ?b3 ?b4 ?b5 ?_)
        case b1=>rw[Qzj];exact QPr (World.ownsRow.alloc dE.out _) p
        case b2=>exact QOe _
        case b3=>unfold maxLen;omega
        case b4=>omega
        case b5=>simp
        intro v10 w10 Kb Gt _
        have l6:=(rD.alloc (.cells #[.int .i64 k] 3)).grown Gt (fun e=>by have:wc.heap.size=w.heap.size:=Option.some.inj e;have:=rD.lt;omega)
        have my:=(o9.alloc (.cells #[.int .i64 k] 3)).grown Gt (fun e=>by have:wc.heap.size=w.heap.size+1:=Option.some.inj e;have:=o9.lt;omega)
        have kj:Below wc.heap.size wc w10:=((Below.refl wc.heap.size wc).alloc (Nat.le_refl _) (.cells #[.int .i64 k] 3)).grown Gt (by simp) (fun q hq=>by have:wc.heap.size=q:=Option.some.inj hq;omega)
        have GA:=Qhb dE.out kj
        have Gr:=mf.trans (kj.mono zw)
        clear Gt
        obtain⟨rg,rc,rfl,Hx,gd⟩:=Kb.form (by omega)
        have ja:=hid Kb
        have aZ:=hid GA
        have nU:=Gr.size
        have rn:=my.lt
        clear Kb GA
        go_wp2_with (at_builtin;refine wpList_append_grows _ rfl (.tmp 60) (.tmp 61) 22 rfl 3 i0 (.int .i64 0) 1 8 Tryz.underlying22 hi H4 Hp gj rfl (by decide) (some ⟨cg,0,none⟩) p p (Qna (l.take p)) rfl (by intro h;cases h) ?q0 ?q1 ⟨rg,0,none⟩ (1+(l.length-p)) rc ([.int .i64 k]++Qna (l.drop p)) rfl ?q2 ?q3 ?q4 ?q5 ?q6 ?q7 ?_)
        case q0=>simp[Qna];omega
        case q1=>intro b Hc;cases Hc;rw[Qdg];exact Q7m aZ.out p
        case q2=>simp[Qna];omega
        case q3=>exact ja.out.cells (g:=rg) rfl
        case q4=>
         intro x hx
         rcases List.mem_append.1 hx with hx|hx
         ·simp at hx;subst hx;rfl
         ·exact QOe _ x hx
        case q5=>omega
        case q6=>unfold maxLen;omega
        case q7=>omega
        intro v11 w11 gO H8
        rw[show p+(1+(l.length-p))=l.length+1 from by omega]at gO
        have l7:=l6.grown H8 (by simp)
        have lS:=my.grown H8 (by simp)
        have kA:=Gr.grown H8 nU (fun q hq=>by cases hq)
        clear H8
        obtain⟨va,vc,rfl⟩:=Qea gO
        have g9:=Q8b gO (show w.heap.size+1+1≤w10.heap.size by omega)
        go_wp2_with fail
        go_roundg (go-1)
        case measure=>omega
        case rel=>exact⟨k+1,by go_num,by omega,by omega,by rw[Mm.out,Q7f,eP.out];simpa[Qna]using g9,(fun e=>by rw[Mm.out]at e;have:=congrArg List.length e;rw[Q7f]at this;simp at this),l7,lS,kA⟩
    ·have Mm:=hid (show Qvd T u (k+1)=Qvd T u k from by simp only[Qvd];rw[if_neg hkid])
     have iO:QLo T u w (some ⟨g,o,none⟩) cap (go-1) (.int .i64 ((k+1:Nat):Int)) cv (wo.alloc (.cells #[.int .i64 T[k].parent,.string T[k].name,.slice pa T[k].props.length pc] 46)):=
      ⟨k+1,rfl,by omega,by omega,by rw[Mm.out];exact Hj.alloc _,by rw[Mm.out];exact hnil,hX.alloc _,hO.alloc _,hb.alloc H3 _⟩
     have Mt:=hid iO
     clear iO Hj hnil
     by_cases e1:T[k].parent=(u:Int)
     ·have GF:k=0:=by
       by_cases h0:k=0
       ·exact h0
       ·exact absurd ⟨h0,by rw[Qsa Hh];exact e1⟩ hkid
      have e2:(T[k].parent != (u:Int))=false:=by simp[e1]
      have e3:((k:Int) == 0)=true:=by simp;omega
      clear hkid e1 GF
      go_wp2_with fail
      go_roundg (go-1)
      case measure=>omega
      case rel=>exact Mt.out
     ·have e2:(T[k].parent != (u:Int))=true:=by simpa using e1
      clear hkid e1
      go_wp2_with fail
      go_roundg (go-1)
      case measure=>omega
      case rel=>exact Mt.out
   ·have aH:k=T.length:=by omega
    have Ht:wo.ownsRow (w.heap.size+1+1) 3 1 cv (QDa T u).length (Qna (QDa T u)):=by unfold QDa;rw[←aH];exact Hj
    obtain⟨ca,cc,rfl⟩:=Qea Ht
    have GG:wo.ownsRow (w.heap.size+1) 3 1 (.slice (some ⟨w.heap.size+1,0,none⟩) 1 1) 1 [.int .i64 u]:=⟨rfl,.inr ⟨w.heap.size+1,1,_,rfl,Nat.le_refl _,hO,by omega,by unfold maxLen;omega,rfl,rfl⟩⟩
    have Hm:(Value.slice ca (QDa T u).length cc).ownBlock=none∨(Value.slice ca (QDa T u).length cc).ownBlock≠(Value.slice (some ⟨w.heap.size+1,0,none⟩) 1 1).ownBlock:=by
     cases ca with
     | none=>exact .inl rfl
     | some q=>right;intro e;have:=(Ht.lt q.block rfl).1;have e2:q.block=w.heap.size+1:=Option.some.inj e;omega
    clear Hj hnil hO aH
    have eS:(QDa T u).length≤T.length:=QSh T u T.length
    have GF:=fun c hc=>QQc T u c |>.1 hc
    have zZ:=hid GF
    clear GF
    go_wp2_with fail
    go_loopg [66,5] ((QDa T u).length) (fun f x y wr=>Qwt T u w a cap (.slice ca (QDa T u).length cc) f x y wr)
    case atStart=>exact⟨0,rfl,by omega,by omega,by exact GG,Ht,Hm,hX,hb⟩
    case round=>
     obtain⟨j,rfl,hj,Mj,ho,hc,kN,GK,Hc⟩:=hrel
     clear GG Ht Hm hX hb
     by_cases Gd:j<(QDa T u).length
     ·have zD:=Qgl HP.out (T.length-u) u hu (by omega)
      have Mm:=zZ.out _ (List.getElem_mem Gd)
      have gN:=(HP.out (QDa T u)[j] Mm.2.1 Mm.1).2
      rw[Mm.2.2]at gN
      have cE:=hid (show QYa T (T.length-u) u=u::(QDa T u).flatMap (QYa T (T.length-u-1))from by
       obtain⟨q,hq⟩:∃q,T.length-u=q+1:=⟨T.length-u-1,by omega⟩
       rw[hq];rfl)
      have Bz:=hid (Qjp (f:=QYa T (T.length-u-1)) (QDa T u) j Gd)
      have J8:=Qkp (f:=QYa T (T.length-u-1)) (QDa T u) (j+1)
      have c9:=hid (QDo HP.out (T.length-(QDa T u)[j]) (T.length-u-1) (QDa T u)[j] Mm.1 (by omega) (by omega))
      have zE:=Qgl HP.out (T.length-(QDa T u)[j]) (QDa T u)[j] Mm.1 (by omega)
      rw[cE.out]at zD
      rw[Bz.out,List.length_append,←c9.out]at J8
      simp only[List.length_cons]at zD
      obtain⟨cg,xT⟩:∃cg,ca=some ⟨cg,0,none⟩:=by
       rcases hc.2 with⟨_,h0⟩|⟨g',cp,cur,e,_⟩
       ·omega
       ·exact⟨g',by cases e;rfl⟩
      subst xT
      have J6:=hc.cellAt j (by omega)
      rw[show(Qna (QDa T u))[j]? = some (.int .i64 ((QDa T u)[j]:Int))from by simp[Qna,Gd]]at J6
      have K7:=(hc.lt cg rfl).2
      have x0:=GK.cell 0
      have xl:=GK.lt
      have sz:=hid (fun wx hx=>IH.out (QDa T u)[j] wx hx Mm.1 (by omega))
      have hpos:0<(QYa T (T.length-(QDa T u)[j]) (QDa T u)[j]).length:=by
       obtain⟨q,hq⟩:∃q,T.length-(QDa T u)[j]=q+1:=⟨T.length-(QDa T u)[j]-1,by omega⟩
       rw[hq];simp[QYa]
      clear Mm zZ gN
      have M0:(u::((QDa T u).take j).flatMap (QYa T (T.length-u-1))).length+(QYa T (T.length-(QDa T u)[j]) (QDa T u)[j]).length≤120:=by simp only[List.length_cons];omega
      have Gi:=hid (show u::((QDa T u).take (j+1)).flatMap (QYa T (T.length-u-1))=(u::((QDa T u).take j).flatMap (QYa T (T.length-u-1)))++QYa T (T.length-(QDa T u)[j]) (QDa T u)[j]from by rw[Bz.out,c9.out];rfl)
      clear J8 zD zE
      unfold Qdh at sz
      have iz:=hid (show j+1≤(QDa T u).length from Gd)
      have Gu:=hid (show(QDa T u).length≤j+1+(gk-1)from by omega)
      generalize QYa T (T.length-(QDa T u)[j]) (QDa T u)[j]=wk at *
      generalize (QDa T u)[j]=c at *
      generalize (u::((QDa T u).take j).flatMap (QYa T (T.length-u-1)))=ol at *
      obtain⟨oa,oc,rfl⟩:=Qea ho
      obtain⟨i0,hi,H4,Hp,gj⟩:=info_parts Qsp
      have HO:=hid ho;have HC:=hid hc;have Ae:=hid kN
      clear ho hc kN
      have GB:=Hc.size
      go_wp2_with fail
      refine(sz.out _ (by exact HT.out.new Hc)).mono ?_
      rintro e w3 ⟨rv,rfl,Jb,Hi⟩
      have Mx:=hid (Qhb HO.out Hi)
      have AK:=Qhb HC.out Hi
      have ki:=GK.keeps (Qaa.of_fresh Hi (fun _=>False)) (fun e=>e)
      have ud:=Hi.size
      have hcl3:=(AK.lt cg rfl).2
      obtain⟨rg,rc,rfl,Hx,gd⟩:=Jb.form hpos
      have oK:=hid Jb
      clear Jb x0 xl J6
      go_wp2_with (at_builtin;refine wpList_append_lies _ rfl (.tmp 70) (.tmp 73) 22 rfl (w.heap.size+1) 3 i0 (.int .i64 0) 1 8 Tryz.underlying22 hi H4 Hp gj rfl (by decide) (.slice oa ol.length oc) ol.length (Qna ol) rfl (by exact Mx.out) ⟨rg,0,none⟩ wk.length rc (Qna wk) rfl ?z1 ?z2 ?z3 ?z4 ?z5 ?z6 ?z7 w3.heap.size ?z8 ?_)
      case z1=>exact QEk wk
      case z2=>exact oK.out.cells (g:=rg) rfl
      case z3=>exact QOe wk
      case z4=>exact hpos
      case z5=>unfold maxLen;omega
      case z6=>omega
      case z7=>omega
      case z8=>rfl
      intro gg gc w4 gv jY xL hlt4
      have bD:=ki.grown jY (by
       intro e
       have:=(Mx.out.lt w.heap.size e).1
       omega)
      have qV:=AK.kept jY Ae.out
      have Hu:=(Hc.trans (Hi.mono GB)).grown jY (by omega) (fun q hq=>by have:=(Mx.out.lt q hq).1;omega)
      have yM:(Value.slice (some ⟨cg,0,none⟩) (QDa T u).length cc).ownBlock≠(Value.slice (some ⟨gg,0,none⟩) (ol.length+wk.length) gc).ownBlock:=by
       intro e
       have e2:cg=gg:=Option.some.inj e
       rcases xL with h|h
       ·rcases Ae.out with h2|h2
        ·cases h2
        ·exact h2 (by rw[h];show some cg=some gg;rw[e2])
       ·omega
      go_wp2_with fail
      go_roundg (gk-1)
      case measure=>omega
      case rel=>exact⟨j+1,by go_num,iz.out,Gu.out,by rw[Gi.out,List.length_append];simpa[Qna]using gv,qV,.inr (by simpa using yM),bD,Hu⟩
     ·have C6:j=(QDa T u).length:=by omega
      have Hn:=hid (show u::((QDa T u).take j).flatMap (QYa T (T.length-u-1))=QYa T (T.length-u) u from by
       obtain⟨q,hq⟩:∃q,T.length-u=q+1:=⟨T.length-u-1,by omega⟩
       rw[hq,List.take_of_length_le (by omega)];rfl)
      rw[Hn.out]at ho
      obtain⟨oa,oc,rfl⟩:=Qea ho
      clear C6
      go_wp2_with fail
      go_ret
      exact⟨_,rfl,Q8b ho (by omega),Hc⟩
theorem QUk(R:Nat→Prop)(v:Value)(T:List Qba)(w:World)(hT:Qpa R w v T)(hn:QWa T=true)(hl0:0<T.length)(hl:T.length≤120) :
 Calls Tryz.prog 90 #[.agg #[v]] w fun e w'=>e = .returned (.bool (Qub T))∧Below w.heap.size w w':=by
 obtain⟨a,cap,rfl,gM,gB⟩:=hT.shape
 have HT:=hid hT;clear hT
 have Gv:=Qua hn
 have HW:=hid (Qbj hn hl0)
 have M4:=fun wx hx=>QWk R (.slice a T.length cap) T Gv hl T.length 0 wx hx hl0 (by omega)
 unfold Qdh at M4
 simp only[Nat.sub_zero]at M4
 have M0:=hid (Q5c Gv hl0)
 rw[show QYa T T.length 0=Qab T from rfl,show((0:Nat):Int)=0 from rfl,M0.out]at M4
 have dK:=hid M4
 clear M4 hn Gv
 go_enter Tryz.func90,Tryz.ntmps90
 go_wp2_with fail
 refine(dK.out _ (by exact HT.out.new ((Below.refl _ _).alloc (Nat.le_refl _) _))).mono ?_
 rintro e w1 ⟨rv,rfl,Hj,Hb⟩
 have GS:=(Holds.new w #[.slice a T.length cap] 27).keeps (Qaa.of_fresh Hb (fun _=>False)) (fun e=>e)
 have Hc:Below w.heap.size w w1:=((Below.refl _ _).alloc (Nat.le_refl _) _).trans (Hb.mono (by simp))
 clear Hb dK
 obtain⟨og,oc,rfl,eZ,Hf⟩:=Hj.form hl0
 go_wp2_with fail
 go_loopg [11] (T.length) (fun f x wr=>∃j:Nat,x = .int .i64 j∧j≤T.length∧T.length≤j+f∧Hid ((Qab T).take j=List.range j)∧w1=wr)
 case atStart=>exact⟨0,rfl,by omega,by omega,rfl,rfl⟩
 case round=>
  obtain⟨j,rfl,hj,hf,hP,rfl⟩:=hrel
  by_cases Hh:j<T.length
  ·have sF:j<(Qab T).length:=by rw[M0.out];exact Hh
   have J6:=Hj.cellAt j (by omega)
   rw[show(Qna (Qab T))[j]? = some (.int .i64 ((Qab T)[j]:Int))from by simp[Qna,sF]]at J6
   have Gq:=hid (show(Qab T).take (j+1)=(Qab T).take j++[(Qab T)[j]]from List.take_succ_eq_append_getElem sF)
   by_cases he:(Qab T)[j]=j
   ·have he':((j:Int) != ((Qab T)[j]:Int))=false:=by simp;omega
    have Kf:=hid (show(Qab T).take (j+1)=List.range (j+1)from by rw[Gq.out,hP.out,he,List.range_succ])
    clear he
    generalize (Qab T)[j]=x at J6 he'
    clear Gq sF
    go_wp2_with fail
    go_roundg (gk-1)
    case measure=>omega
    case rel=>exact⟨j+1,by go_num,by omega,by omega,Kf,rfl⟩
   ·have he':((j:Int) != ((Qab T)[j]:Int))=true:=by simp;omega
    have hF:=hid (show Qub T=false from by
     rw[HW.out,decide_eq_false,Bool.false_and]
     intro e
     have:(Qab T)[j]? = some j:=by rw[e];simp[Hh]
     rw[List.getElem?_eq_getElem sF]at this
     exact he (Option.some.inj this))
    clear he
    generalize (Qab T)[j]=x at J6 he'
    clear Gq sF
    go_wp2_with fail
    go_ret
    exact⟨Qha (by rw[hF.out]),Hc⟩
  ·have hO:=hid (show Qub T=T.all fun n=>Qtd n.props from by
    have e:Qab T=List.range T.length:=by
     have:=hP.out
     rw[show j=T.length from by omega,List.take_of_length_le (by rw[M0.out];omega)]at this
     exact this
    rw[HW.out,e,decide_eq_true rfl,Bool.true_and])
   clear hP
   have bx0:=GS.cell 0
   have blt:=GS.lt
   go_wp2_with fail
   go_loopg [23] (T.length) (fun f x wr=>∃k:Nat,x = .int .i64 k∧k≤T.length∧T.length≤k+f∧Hid (T.all (fun n=>Qtd n.props)=(T.drop k).all fun n=>Qtd n.props)∧Below w.heap.size w wr)
   case atStart=>exact⟨0,rfl,by omega,by omega,by simp[Hid],Hc⟩
   case round=>
    obtain⟨go,rfl⟩:∃x:Nat,x=gk:=⟨_,rfl⟩
    obtain⟨wo,rfl⟩:∃x:World,x=wr:=⟨_,rfl⟩
    obtain⟨k,rfl,hk,Jv,hA,hb⟩:=hrel
    have H3:=hb.size
    by_cases GR:k<T.length
    ·obtain⟨g,o,pa,pc,rfl,hg,c0,c1,c2,hp,p1,p2,b0,b1,b2⟩:=(HT.out.new hb).at k GR
     have jz:=hid hp;clear hp
     have Hk:=hid (show(T.drop k).all (fun n=>Qtd n.props)=(Qtd T[k].props && (T.drop (k+1)).all fun n=>Qtd n.props)from by rw[List.drop_eq_getElem_cons GR];rfl)
     have k9:=Holds.new wo #[.int .i64 T[k].parent,.string T[k].name,.slice pa T[k].props.length pc] 46
     go_wp2_with fail
     go_loopg [7] (T[k].props.length) (fun f x wx=>∃(j m:Nat),x = .int .i64 j∧1≤j∧T[k].props.length≤j+f∧(1<j→j≤T[k].props.length)∧Hid (Qtd T[k].props=Qtd (T[k].props.drop (j-1)))∧
      wx=(wo.alloc (.cells #[.int .i64 T[k].parent,.string T[k].name,.slice pa T[k].props.length pc] 46)).drewN m)
     case atStart=>exact⟨1,0,rfl,by omega,by omega,by omega,by simp[Hid],rfl⟩
     case round=>
      obtain⟨j,m,rfl,iz,Jv,Gu,hB,rfl⟩:=hrel
      by_cases Gd:j<T[k].props.length
      ·obtain⟨gp,op,e1,pF,d0,d1,d2,d3⟩:=jz.out.at j Gd
       obtain⟨gq,oq,e2,yo,f0,f1,f2,f3⟩:=jz.out.at (j-1) (by omega)
       subst e1
       cases e2
       have yx:j-1<T[k].props.length:=by omega
       have Gb:IntKind.i64.wrap ((j:Int)-1)=(j:Int)-1:=IntWalk.i64_in _ (by omega)
       have js:(0:Int)≤(j:Int)-1:=by omega
       have jt:((j:Int)-1).toNat=j-1:=by omega
       have ju:(j:Int)-1<(T[k].props.length:Int):=by omega
       have sA:(j:Int)<(T[k].props.length:Int):=by omega
       have K6:=hid (QVo T[k].props j iz Gd)
       cases k7:Op.bytesLess (T[k].props[j-1]).name.toList (T[k].props[j]).name.toList with
       | true=>
        have hL:=hid (show ltS (T[k].props[j-1]).name (T[k].props[j]).name=true from k7)
        go_wp2_with fail
        go_quiet (fail)
        go_wp2_with fail
        clear Gb js jt ju sA
        go_roundg (gk-1)
        case measure=>omega
        case rel=>exact⟨j+1,_,by go_num,by omega,by omega,by omega,by show _=_;rw[hB.out,K6.out,hL.out,Bool.true_and];rfl,rfl⟩
       | false=>
        have hL:=hid (show ltS (T[k].props[j-1]).name (T[k].props[j]).name=false from k7)
        go_wp2_with fail
        go_quiet (fail)
        go_wp2_with fail
        clear Gb js jt ju sA
        go_ret
        exact⟨Qha (by rw[hO.out,hA.out,Hk.out,hB.out,K6.out,hL.out];simp),QIa (QIa (hb.alloc H3 _) _) _⟩
      ·have uC:=hid (show Qtd T[k].props=true from by rw[hB.out];exact QSo (by simp;omega))
       clear hB
       have Hi:Below w.heap.size w ((wo.alloc (.cells #[.int .i64 T[k].parent,.string T[k].name,.slice pa T[k].props.length pc] 46)).drewN m):=QIa (hb.alloc H3 _) m
       go_wp2_with fail
       go_roundg (go-1)
       case measure=>omega
       case rel=>exact⟨k+1,by go_num,by omega,by omega,by show _=_;rw[hA.out,Hk.out,uC.out,Bool.true_and],Hi⟩
    ·go_wp2_with fail
     go_ret
     exact⟨Qha (by rw[hO.out,hA.out,List.drop_eq_nil_of_le (by omega)];rfl),hb⟩
theorem QDh{T:List Qba}(h:Qza T=false):Qfa T=3:=by unfold Qfa;rw[if_pos h]
theorem Qqi{T:List Qba}(h:Qza T=true)(h2:QWa T=false):Qfa T=1:=by unfold Qfa;rw[h,if_neg (by simp),if_pos h2]
theorem QEh{T:List Qba}(h:Qza T=true)(h2:QWa T=true)(h3:Qub T=false):Qfa T=12:=by unfold Qfa;rw[h,h2,if_neg (by simp),if_neg (by simp),if_pos h3]
theorem Qtn{T:List Qba}(h:Qza T=true)(h2:QWa T=true)(h3:Qub T=true):Qfa T=if Qlf T=true then 5 else if QPd T=true then 2 else 0:=by
 unfold Qfa;rw[h,h2,h3,if_neg (by simp),if_neg (by simp),if_neg (by simp),QPj h2]
def Qnj(T:List Qba)(k:Nat):Prop:=∀i,i<k→QIm T i i=false
theorem Qcp{T:List Qba}(h:Qnj T T.length):Qlf T=false:=by
 unfold Qlf;rw[List.any_eq_false]
 intro i hi
 rw[h i (List.mem_range.1 hi)];simp
theorem QAn{T:List Qba}{i k:Nat}(hi:i<T.length)(hk:k<i)(h0:0<k)(h1:T[k].parent=T[i].parent)(h2:T[k].name=T[i].name):Qlf T=true:=by
 unfold Qlf;rw[List.any_eq_true]
 exact⟨i,List.mem_range.2 hi,(Qfh T i i).2 ⟨k,h0,hk,by rw[Qsa (by omega),Qsa hi,h1],by rw[QEa (by omega),QEa hi,h2]⟩⟩
theorem Qxs{T:List Qba}(h:∀i,i<T.length→Q6b T T.length i≤8):QPd T=false:=by
 unfold QPd;rw[List.any_eq_false]
 intro i hi
 have:=h i (List.mem_range.1 hi)
 unfold QAs;simp;omega
theorem Qbr{T:List Qba}{i:Nat}(hi:i<T.length)(h:8<Q6b T T.length i):QPd T=true:=by
 unfold QPd;rw[List.any_eq_true]
 exact⟨i,List.mem_range.2 hi,decide_eq_true h⟩
theorem QEg(R:Nat→Prop)(v:Value)(T:List Qba)(w:World)(hT:Qpa R w v T) :
 Calls Tryz.prog 42 #[.agg #[v]] w fun e w'=>e = .returned (.int .i64 (Qfa T))∧Below w.heap.size w w':=by
 obtain⟨a,cap,rfl,gM,gB⟩:=hT.shape
 have HT:=hid hT;clear hT
 have He:Below w.heap.size w (w.alloc (.cells #[.slice a T.length cap] 27)):=(Below.refl _ _).alloc (Nat.le_refl _) _
 have ke:=Holds.new w #[.slice a T.length cap] 27
 have Mo:=fun wx hx=>Qdi R (.slice a T.length cap) T wx hx
 cases hL:Qza T with
 | false=>
  rw[hL]at Mo
  have Ms:=hid Mo
  have HC:=hid (QDh hL)
  clear Mo hL
  go_enter Tryz.func42,Tryz.ntmps42
  go_wp2_with fail
  refine(Ms.out _ (by exact HT.out.new He)).mono ?_
  rintro e w1 ⟨rfl,Hb⟩
  go_wp2_with fail
  go_ret
  exact⟨QUa (by rw[HC.out]),He.trans (Hb.mono (by simp))⟩
 | true=>
  rw[hL]at Mo
  have Ms:=hid Mo
  have hlen:=Qeb hL
  obtain⟨hlen1,KP⟩:=hlen
  have Hv:=fun wx hx=>Qjo R (.slice a T.length cap) T wx hx
  clear Mo
  cases hN:QWa T with
  | false=>
   rw[hN]at Hv
   have Kd:=hid Hv
   have HC:=hid (Qqi hL hN)
   clear Hv hL hN
   go_enter Tryz.func42,Tryz.ntmps42
   go_wp2_with fail
   refine(Ms.out _ (by exact HT.out.new He)).mono ?_
   rintro e w1 ⟨rfl,Hb⟩
   have Hc:=He.trans (Hb.mono (by simp))
   have GS:=ke.keeps (Qaa.of_fresh Hb (fun _=>False)) (fun e=>e)
   have bx:=GS.cell 0
   have bl:=GS.lt
   go_wp2_with fail
   refine(Kd.out _ (by exact HT.out.new Hc)).mono ?_
   rintro e w2 ⟨rfl,Hi⟩
   go_wp2_with fail
   go_ret
   exact⟨QUa (by rw[HC.out]),Hc.trans (Hi.mono Hc.size)⟩
  | true=>
   rw[hN]at Hv
   have Kd:=hid Hv
   have Jb:=fun wx hx=>QUk R (.slice a T.length cap) T wx hx hN (by omega) KP
   clear Hv
   cases hW:Qub T with
   | false=>
    rw[hW]at Jb
    have oK:=hid Jb
    have HC:=hid (QEh hL hN hW)
    clear Jb hL hN hW
    go_enter Tryz.func42,Tryz.ntmps42
    go_wp2_with fail
    refine(Ms.out _ (by exact HT.out.new He)).mono ?_
    rintro e w1 ⟨rfl,Hb⟩
    have Hc:=He.trans (Hb.mono (by simp))
    have GS:=ke.keeps (Qaa.of_fresh Hb (fun _=>False)) (fun e=>e)
    have bx:=GS.cell 0
    have bl:=GS.lt
    go_wp2_with fail
    refine(Kd.out _ (by exact HT.out.new Hc)).mono ?_
    rintro e w2 ⟨rfl,Hi⟩
    have Hu:=Hc.trans (Hi.mono Hc.size)
    have Kg:=GS.keeps (Qaa.of_fresh Hi (fun _=>False)) (fun e=>e)
    clear bx bl
    have bx:=Kg.cell 0
    have bl:=Kg.lt
    go_wp2_with fail
    refine(oK.out _ (by exact HT.out.new Hu)).mono ?_
    rintro e w3 ⟨rfl,H9⟩
    go_wp2_with fail
    go_ret
    exact⟨QUa (by rw[HC.out]),Hu.trans (H9.mono Hu.size)⟩
   | true=>
    rw[hW]at Jb
    have oK:=hid Jb
    have HC:=hid (Qtn hL hN hW)
    have ag:=hid (fun(i:Nat) (hi:i<T.length) wx hx=>Q1i R (.slice a T.length cap) T i wx hx hN (by omega) (by omega) (by omega))
    clear Jb hL hN hW
    go_enter Tryz.func42,Tryz.ntmps42
    go_wp2_with fail
    refine(Ms.out _ (by exact HT.out.new He)).mono ?_
    rintro e w1 ⟨rfl,Hb⟩
    have Hc:=He.trans (Hb.mono (by simp))
    have GS:=ke.keeps (Qaa.of_fresh Hb (fun _=>False)) (fun e=>e)
    have bx:=GS.cell 0
    have bl:=GS.lt
    go_wp2_with fail
    refine(Kd.out _ (by exact HT.out.new Hc)).mono ?_
    rintro e w2 ⟨rfl,Hi⟩
    have Hu:=Hc.trans (Hi.mono Hc.size)
    have Kg:=GS.keeps (Qaa.of_fresh Hi (fun _=>False)) (fun e=>e)
    clear bx bl
    have bx:=Kg.cell 0
    have bl:=Kg.lt
    go_wp2_with fail
    refine(oK.out _ (by exact HT.out.new Hu)).mono ?_
    rintro e w3 ⟨rfl,H9⟩
    have gG:=Hu.trans (H9.mono Hu.size)
    have JU:=Kg.keeps (Qaa.of_fresh H9 (fun _=>False)) (fun e=>e)
    clear bx bl Ms Kd oK He Hb Hc Hi Hu H9 ke GS Kg
    have bx:=JU.cell 0
    have bl:=JU.lt
    go_wp2_with fail
    go_loopg [18] (T.length) (fun f x wr=>∃i:Nat,x = .int .i64 i∧i≤T.length∧T.length≤i+f∧Hid (Qnj T i)∧Below w.heap.size w wr∧Holds wr w.heap.size #[.slice a T.length cap] 27)
    case atStart=>exact⟨0,rfl,by omega,by omega,(fun i h=>absurd h (Nat.not_lt_zero i):Qnj T 0),gG,JU⟩
    case round=>
     obtain⟨go,rfl⟩:∃x:Nat,x=gk:=⟨_,rfl⟩
     obtain⟨wo,rfl⟩:∃x:World,x=wr:=⟨_,rfl⟩
     obtain⟨i,rfl,hi,hf,hD,hb,hB⟩:=hrel
     clear bx bl
     have H3:=hb.size
     have bx:=hB.cell 0
     have bl:=hB.lt
     by_cases Hh:i<T.length
     ·obtain⟨g,o,pa,pc,rfl,hg,c0,c1,c2,hp,p1,p2,b0,b1,b2⟩:=(HT.out.new hb).at i Hh
      have k9:=Holds.new wo #[.int .i64 T[i].parent,.string T[i].name,.slice pa T[i].props.length pc] 46
      clear hp
      have Gi:=hid (HT.out.new hb)
      go_wp2_with fail
      go_loopg [5] (i) (fun f x wx=>∃(k m:Nat),x = .int .i64 k∧1≤k∧i≤k+f∧Hid (QIm T i k=false)∧(1<k→k≤i)∧(wo.alloc (.cells #[.int .i64 T[i].parent,.string T[i].name,.slice pa T[i].props.length pc] 46)).drewN m=wx)
      case atStart=>exact⟨1,0,rfl,by omega,by omega,(by show QIm T i 1=false;rfl),by omega,rfl⟩
      case round=>
       obtain⟨k,m,rfl,gz,Jv,hF,MX,rfl⟩:=hrel
       by_cases kH:k<i
       ·obtain⟨g',o',pa',pc',e',hg',d0,d1,d2,hp',q1,q2,r0,r1,r2⟩:=Gi.out.at k (by omega)
        cases e'
        clear hp'
        have ve:(k:Int)<(i:Int):=by omega
        by_cases GP:T[k].parent=T[i].parent
        ·have nP:(T[k].parent == T[i].parent)=true:=by simp[GP]
         cases Hm:(T[k].name.toList == T[i].name.toList)with
         | true=>
          have hX:=hid (show Qfa T=5 from by rw[HC.out,if_pos (QAn Hh kH (by omega) GP ((Qxa _ _).1 Hm))])
          clear GP
          go_wp2_with fail
          go_quiet (fail)
          go_wp2_with fail
          go_ret
          exact⟨QUa (by rw[hX.out]),QIa (QIa (hb.alloc H3 _) _) _⟩
         | false=>
          have mN:=hid (show QIm T i (k+1)=false from by
           simp only[QIm,hF.out]
           rw[show eqS (Qwa T k) (Qwa T i)=false from by rw[QEa (by omega),QEa Hh];exact Hm];simp)
          clear GP
          go_wp2_with fail
          go_quiet (fail)
          go_wp2_with fail
          go_roundg (gk-1)
          case measure=>omega
          case rel=>exact⟨k+1,_,by go_num,by omega,by omega,mN,by omega,rfl⟩
        ·have nP:(T[k].parent == T[i].parent)=false:=by simpa using GP
         have mN:=hid (show QIm T i (k+1)=false from by
          simp only[QIm,hF.out]
          rw[show decide (QTa T k=QTa T i)=false from by rw[Qsa (by omega),Qsa Hh];simpa using GP];simp)
         clear GP
         go_wp2_with fail
         go_quiet (fail)
         go_wp2_with fail
         go_roundg (gk-1)
         case measure=>omega
         case rel=>exact⟨k+1,_,by go_num,by omega,by omega,mN,by omega,rfl⟩
       ·have uG:=hid (show Qnj T (i+1)from by
         intro q hq
         by_cases e:q=i
         ·subst e
          by_cases h1:1<k
          ·have:k=q:=by have:=MX h1;omega
           rw[←this]at hF ⊢;exact hF.out
          ·have tV:q=0∨q=1:=by omega
           rcases tV with rfl|rfl <;> rfl
         ·exact hD.out q (by omega))
        have Hi:Below w.heap.size w ((wo.alloc (.cells #[.int .i64 T[i].parent,.string T[i].name,.slice pa T[i].props.length pc] 46)).drewN m):=QIa (hb.alloc H3 _) m
        have JU:=(hB.alloc (.cells #[.int .i64 T[i].parent,.string T[i].name,.slice pa T[i].props.length pc] 46)).drewN m
        clear hF MX
        go_wp2_with fail
        go_roundg (go-1)
        case measure=>omega
        case rel=>exact⟨i+1,by go_num,by omega,by omega,uG,Hi,JU⟩
     ·have hX:=hid (show Qfa T=if QPd T=true then 2 else 0 from by
       rw[HC.out,Qcp (by have:=hD.out;rwa [show i=T.length from by omega]at this)];simp)
      clear hD HC
      go_wp2_with fail
      go_loopg [52] (T.length) (fun f x wr=>∃i:Nat,x = .int .i64 i∧i≤T.length∧T.length≤i+f∧Hid (∀q:Nat,q<i→Q6b T T.length q≤8)∧Below w.heap.size w wr∧Holds wr w.heap.size #[.slice a T.length cap] 27)
      case atStart=>exact⟨0,rfl,by omega,by omega,(fun q h=>absurd h (Nat.not_lt_zero q):∀q:Nat,q<0→Q6b T T.length q≤8),hb,hB⟩
      case round=>
       obtain⟨j,rfl,hj,Mj,hE,gZ,lE⟩:=hrel
       clear bx bl
       have bx:=lE.cell 0
       have bl:=lE.lt
       by_cases Gd:j<T.length
       ·by_cases h8:Q6b T T.length j≤8
        ·have Kz:=hid (show ∀q:Nat,q<j+1→Q6b T T.length q≤8 from fun q hq=>by
          by_cases e:q=j
          ·subst e;exact h8
          ·exact hE.out q (by omega))
         go_wp2_with fail
         refine(ag.out j Gd _ (by exact HT.out.new gZ)).mono ?_
         rintro e w8 ⟨rfl,kK⟩
         have oT:=lE.keeps (Qaa.of_fresh kK (fun _=>False)) (fun e=>e)
         go_wp2_with fail
         go_roundg (gk-1)
         case measure=>omega
         case rel=>exact⟨j+1,by go_num,by omega,by omega,Kz,gZ.trans (kK.mono gZ.size),oT⟩
        ·have h8':8<Q6b T T.length j:=by omega
         have hY:=hid (show Qfa T=2 from by rw[hX.out,if_pos (Qbr Gd h8')])
         clear h8
         go_wp2_with fail
         refine(ag.out j Gd _ (by exact HT.out.new gZ)).mono ?_
         rintro e w8 ⟨rfl,kK⟩
         go_wp2_with fail
         go_ret
         exact⟨QUa (by rw[hY.out]),gZ.trans (kK.mono gZ.size)⟩
       ·have hY:=hid (show Qfa T=0 from by rw[hX.out,Qxs (by have:=hE.out;rwa [show j=T.length from by omega]at this)];simp)
        go_wp2_with fail
        go_ret
        exact⟨QUa (by rw[hY.out]),gZ⟩
theorem QLi{a b:ByteArray}(h:a.data.toList=b.data.toList):a=b:=by
 cases a;cases b;congr;exact Array.toList_inj.1 h
theorem QVk(R:Nat→Prop)(v:Value)(T:List Qba)(u:Nat)(w:World)(hT:Qpa R w v T)(hn:QWa T=true)(hu:u<T.length)(hl:T.length≤120) :
 Calls Tryz.prog 44 #[.agg #[v],.int .i64 u] w fun e w'=>e = .returned (.string (QQa T u))∧Below w.heap.size w w':=by
 obtain⟨a,cap,rfl,gM,gB⟩:=hT.shape
 have HT:=hid hT;clear hT
 have HN:=hid hn;clear hn
 by_cases h0:u=0
 ·have h0':((u:Int) == 0)=true:=by simp[h0]
  have hP:=hid (show QQa T u=⟨#[47]⟩from by unfold QQa;rw[if_pos h0])
  clear h0
  go_enter Tryz.func44,Tryz.ntmps44
  go_wp2_with fail
  go_ret
  exact⟨by rw[hP.out];rfl,(Below.refl _ _).alloc (Nat.le_refl _) _⟩
 ·have h0':((u:Int) == 0)=false:=by simp;omega
  have hP:=hid (show QQa T u=⟨(Qje (pc T u)).toArray⟩from by unfold QQa;rw[if_neg h0])
  have jX:=hid (QPh HN.out u u (Nat.le_refl _) hu)
  clear h0
  go_enter Tryz.func44,Tryz.ntmps44
  go_wp2_with fail
  go_loopg [1,5] (u) (fun f x y wr=>∃(k:Nat) (o:ByteArray),x = .int .i64 k∧y = .string o∧k≤f∧k≤u∧o.size≤4000∧Hid (Qje (pc T u)=Qje (pc T k)++o.data.toList)∧
   ∃n,(w.alloc (.cells #[.slice a T.length cap] 27)).drewN n=wr)
  case atStart=>exact⟨u,ByteArray.empty,rfl,rfl,Nat.le_refl _,Nat.le_refl _,by decide,by show _=_;rw[show ByteArray.empty.data.toList=[]from rfl,List.append_nil],0,rfl⟩
  case round=>
   obtain⟨k,o,rfl,rfl,hf,pJ,Dd,hF,n,rfl⟩:=hrel
   by_cases GF:0<k
   ·have hk:k<T.length:=by omega
    obtain⟨g,oo,pa,pc',rfl,hg,c0,c1,c2,hp,p1,p2,b0,b1,b2⟩:=HT.out.at k hk
    have KQ:=QYh HN.out k hk
    have gU:=Q3a (Qua HN.out) GF hk
    have GP:=hid (show T[k].parent=((Qwb T k:Nat):Int)from by rw[gU.2,Qsa hk])
    obtain⟨x1,rE,jL,Gy⟩:=Q1e ⟨#[47]⟩ T[k].name (by rw[show(⟨#[47]⟩:ByteArray).size=1 from rfl];omega)
    rw[show(⟨#[47]⟩:ByteArray).size=1 from rfl]at jL
    obtain⟨x2,rF,hx2,bI⟩:=Q1e x1 o (by omega)
    have mN:=hid (show Qje (pc T u)=Qje (pc T (Qwb T k))++x2.data.toList from by
     rw[hF.out,Qlb (Qua HN.out) GF hk,Qug,bI,Gy,QEa hk];simp)
    have oh:x2.size≤4000:=by
     have h1:=congrArg List.length mN.out
     have h2:=jX.out
     simp only[List.length_append]at h1
     have h3:x2.data.toList.length=x2.size:=by simp
     omega
    obtain⟨tP,jp⟩:=gU
    clear hp c2 jL Gy hx2 bI hF jp
    generalize T[k].parent=pp at c0 GP b1 b2
    have nQ:=GP.out
    subst nQ
    generalize Qwb T k=pk at *
    have ac:(0:Int)<(k:Int):=by omega
    go_wp2_with fail
    go_roundg (gk-1)
    case measure=>omega
    case rel=>exact⟨pk,x2,rfl,rfl,by omega,by omega,oh,mN,n,rfl⟩
   ·have gz:k=0:=by omega
    subst gz
    have hE:=hid (show o=QQa T u from QLi (by rw[hP.out,hF.out,Qte];rfl))
    clear hF
    go_wp2_with fail
    go_ret
    exact⟨by rw[hE.out];rfl,QIa ((Below.refl _ _).alloc (Nat.le_refl _) _) n⟩
theorem Qbi(R:Nat→Prop)(v:Value)(T:List Qba)(node:Int)(w:World)(hT:Qpa R w v T) :
 Calls Tryz.prog 15 #[.agg #[v],.int .i64 node] w fun e w'=>e = .returned (.string (QLk T node))∧Below w.heap.size w w':=by
 obtain⟨a,cap,rfl,gM,gB⟩:=hT.shape
 have HT:=hid hT;clear hT
 have gy:=fun wx hx=>QEg R (.slice a T.length cap) T wx hx
 have hE:=hid (show QLk T node=if Qfa T≠0∨node<0∨T.length≤node then ByteArray.empty else QQa T node.toNat from rfl)
 have He:Below w.heap.size w (w.alloc (.cells #[.slice a T.length cap] 27)):=(Below.refl _ _).alloc (Nat.le_refl _) _
 have ke:=Holds.new w #[.slice a T.length cap] 27
 by_cases hz:Qfa T=0
 ·have Hv:=Q0b hz
  have jl:=Qeb (QPa hz)
  obtain⟨GO,Ge⟩:=jl
  by_cases hr:node<0
  ·have hX:=hid (show QLk T node=ByteArray.empty from by rw[hE.out,if_pos (.inr (.inl hr))])
   rw[hz]at gy
   have kF:=hid gy
   clear gy hz Hv
   go_enter Tryz.func15,Tryz.ntmps15
   go_wp2_with fail
   refine(kF.out _ (by exact HT.out.new He)).mono ?_
   rintro e w1 ⟨rfl,Hb⟩
   go_wp2_with fail
   go_ret
   exact⟨by rw[hX.out];rfl,He.trans (Hb.mono (by simp))⟩
  ·by_cases gd:(T.length:Int)≤node
   ·have hX:=hid (show QLk T node=ByteArray.empty from by rw[hE.out,if_pos (.inr (.inr gd))])
    rw[hz]at gy
    have kF:=hid gy
    have hr':0≤node:=by omega
    clear gy hz Hv hr
    go_enter Tryz.func15,Tryz.ntmps15
    go_wp2_with fail
    refine(kF.out _ (by exact HT.out.new He)).mono ?_
    rintro e w1 ⟨rfl,Hb⟩
    have GS:=ke.keeps (Qaa.of_fresh Hb (fun _=>False)) (fun e=>e)
    have bx:=GS.cell 0
    have bl:=GS.lt
    go_wp2_with fail
    go_ret
    exact⟨by rw[hX.out];rfl,He.trans (Hb.mono (by simp))⟩
   ·obtain⟨k,rfl⟩:=Int.eq_ofNat_of_zero_le (show 0≤node by omega)
    have kH:k<T.length:=by omega
    have hX:=hid (show QLk T k=QQa T k from by rw[hE.out,if_neg (by rintro (h|h);exact h hz;omega),Int.toNat_natCast])
    rw[hz]at gy
    have kF:=hid gy
    have mn:=hid (fun wx hx=>QVk R (.slice a T.length cap) T k wx hx Hv kH Ge)
    have hr':(k:Int)<(T.length:Int):=by omega
    clear gy hz Hv hr gd
    go_enter Tryz.func15,Tryz.ntmps15
    go_wp2_with fail
    refine(kF.out _ (by exact HT.out.new He)).mono ?_
    rintro e w1 ⟨rfl,Hb⟩
    have GS:=ke.keeps (Qaa.of_fresh Hb (fun _=>False)) (fun e=>e)
    have bx:=GS.cell 0
    have bl:=GS.lt
    have Hc:=He.trans (Hb.mono (by simp))
    go_wp2_with fail
    refine(mn.out _ (by exact HT.out.new Hc)).mono ?_
    rintro e w2 ⟨rfl,Hi⟩
    go_wp2_with fail
    go_ret
    exact⟨by rw[hX.out];rfl,Hc.trans (Hi.mono Hc.size)⟩
 ·have hz':(Qfa T != 0)=true:=by simpa using hz
  have hX:=hid (show QLk T node=ByteArray.empty from by rw[hE.out,if_pos (.inl hz)])
  have kF:=hid gy
  clear gy hz
  generalize Qfa T=c at *
  go_enter Tryz.func15,Tryz.ntmps15
  go_wp2_with fail
  refine(kF.out _ (by exact HT.out.new He)).mono ?_
  rintro e w1 ⟨rfl,Hb⟩
  go_wp2_with fail
  go_ret
  exact⟨by rw[hX.out];rfl,He.trans (Hb.mono (by simp))⟩
theorem QTk(R:Nat→Prop)(v:Value)(T:List Qba)(s:ByteArray)(w:World)(hT:Qpa R w v T)(hn:QWa T=true)(hl:T.length≤120) :
 Calls Tryz.prog 43 #[.agg #[v],.string s] w fun e w'=>e = .returned (.int .i64 (Q2b T s))∧Below w.heap.size w w':=by
 obtain⟨a,cap,rfl,gM,gB⟩:=hT.shape
 have HT:=hid hT;clear hT
 have HP:=hid (fun(k:Nat) (hk:k<T.length) wx hx=>QVk R (.slice a T.length cap) T k wx hx hn hk hl)
 clear hn
 go_enter Tryz.func43,Tryz.ntmps43
 go_wp2_with fail
 go_loopg [9] (T.length) (fun f x wr=>∃k:Nat,x = .int .i64 k∧k≤T.length∧T.length≤k+f∧Hid (∀q:Nat,q<k→eqS (QQa T q) s=false)∧Below w.heap.size w wr∧Holds wr w.heap.size #[.slice a T.length cap] 27)
 case atStart=>exact⟨0,rfl,by omega,by omega,(fun q h=>absurd h (Nat.not_lt_zero q):∀q:Nat,q<0→eqS (QQa T q) s=false),(Below.refl _ _).alloc (Nat.le_refl _) _,Holds.new w _ _⟩
 case round=>
  obtain⟨k,rfl,hk,hf,hF,hb,hB⟩:=hrel
  have H3:=hb.size
  have bx:=hB.cell 0
  have bl:=hB.lt
  by_cases Hh:k<T.length
  ·cases he:((QQa T k).toList == s.toList)with
   | true=>
    have hX:=hid (QNh Hh he hF.out)
    go_wp2_with fail
    refine(HP.out k Hh _ (by exact HT.out.new hb)).mono ?_
    rintro e w1 ⟨rfl,Hb⟩
    go_wp2_with fail
    go_ret
    exact⟨QUa (by rw[hX.out]),hb.trans (Hb.mono H3)⟩
   | false=>
    have mN:=hid (show ∀q:Nat,q<k+1→eqS (QQa T q) s=false from fun q hq=>by
     by_cases e:q=k
     ·subst e;exact he
     ·exact hF.out q (by omega))
    go_wp2_with fail
    refine(HP.out k Hh _ (by exact HT.out.new hb)).mono ?_
    rintro e w1 ⟨rfl,Hb⟩
    have GS:=hB.keeps (Qaa.of_fresh Hb (fun _=>False)) (fun e=>e)
    go_wp2_with fail
    go_roundg (gk-1)
    case measure=>omega
    case rel=>exact⟨k+1,by go_num,by omega,by omega,mN,hb.trans (Hb.mono H3),GS⟩
  ·have hX:=hid (QOm (s:=s) (by have:=hF.out;rwa [show k=T.length from by omega]at this))
   go_wp2_with fail
   go_ret
   exact⟨QUa (by rw[hX.out]),hb⟩
theorem Q0i(R:Nat→Prop)(v:Value)(T:List Qba)(s:ByteArray)(w:World)(hT:Qpa R w v T) :
 Calls Tryz.prog 63 #[.agg #[v],.string s] w fun e w'=>e = .returned (.tuple #[.int .i64 (QBa T s).1,.int .i64 (QBa T s).2])∧Below w.heap.size w w':=by
 obtain⟨a,cap,rfl,gM,gB⟩:=hT.shape
 have HT:=hid hT;clear hT
 have gy:=fun wx hx=>QEg R (.slice a T.length cap) T wx hx
 have hE:=hid (show QBa T s=if Qfa T≠0 then(0,Qfa T)else if 0≤Q2b T s then(Q2b T s,0)else(0,4)from rfl)
 have He:Below w.heap.size w (w.alloc (.cells #[.slice a T.length cap] 27)):=(Below.refl _ _).alloc (Nat.le_refl _) _
 have ke:=Holds.new w #[.slice a T.length cap] 27
 by_cases hz:Qfa T=0
 ·have Hv:=Q0b hz
  have Ge:=(Qeb (QPa hz)).2
  have mn:=hid (fun wx hx=>QTk R (.slice a T.length cap) T s wx hx Hv Ge)
  have gw:=QZf T s
  by_cases hf:0≤Q2b T s
  ·have hX:=hid (show QBa T s=(Q2b T s,0)from by rw[hE.out,if_neg (by simp[hz]),if_pos hf])
   rw[hz]at gy
   have kF:=hid gy
   clear gy hz Hv hE gw
   generalize Q2b T s=x at *
   go_enter Tryz.func63,Tryz.ntmps63
   go_wp2_with fail
   refine(kF.out _ (by exact HT.out.new He)).mono ?_
   rintro e w1 ⟨rfl,Hb⟩
   have GS:=ke.keeps (Qaa.of_fresh Hb (fun _=>False)) (fun e=>e)
   have bx:=GS.cell 0
   have bl:=GS.lt
   have Hc:=He.trans (Hb.mono (by simp))
   go_wp2_with fail
   refine(mn.out _ (by exact HT.out.new Hc)).mono ?_
   rintro e w2 ⟨rfl,Hi⟩
   go_wp2_with fail
   go_ret2
   exact⟨by rw[hX.out];rfl,Hc.trans (Hi.mono Hc.size)⟩
  ·have hX:=hid (show QBa T s=(0,4)from by rw[hE.out,if_neg (by simp[hz]),if_neg hf])
   have hf':Q2b T s<0:=by omega
   rw[hz]at gy
   have kF:=hid gy
   clear gy hz Hv hE gw hf
   generalize Q2b T s=x at *
   go_enter Tryz.func63,Tryz.ntmps63
   go_wp2_with fail
   refine(kF.out _ (by exact HT.out.new He)).mono ?_
   rintro e w1 ⟨rfl,Hb⟩
   have GS:=ke.keeps (Qaa.of_fresh Hb (fun _=>False)) (fun e=>e)
   have bx:=GS.cell 0
   have bl:=GS.lt
   have Hc:=He.trans (Hb.mono (by simp))
   go_wp2_with fail
   refine(mn.out _ (by exact HT.out.new Hc)).mono ?_
   rintro e w2 ⟨rfl,Hi⟩
   go_wp2_with fail
   go_ret2
   exact⟨by rw[hX.out];rfl,Hc.trans (Hi.mono Hc.size)⟩
 ·have hz':(Qfa T != 0)=true:=by simpa using hz
  have hX:=hid (show QBa T s=(0,Qfa T)from by rw[hE.out,if_pos hz])
  have kF:=hid gy
  clear gy hz hE
  generalize Qfa T=c at *
  go_enter Tryz.func63,Tryz.ntmps63
  go_wp2_with fail
  refine(kF.out _ (by exact HT.out.new He)).mono ?_
  rintro e w1 ⟨rfl,Hb⟩
  go_wp2_with fail
  go_ret2
  exact⟨by rw[hX.out];rfl,He.trans (Hb.mono (by simp))⟩
section
variable{P:Program}{w:World}
theorem Qgi(base:Nat)(t ty e:TypeId)(i:TypeInfo)(size:Nat)(ht:P.underlying t=some (.slice e))(hi:P.info? e=some i)
 (v:Value) (n:Nat) (xs:List Value) (Hj:w.ownsRow base e size v n xs) (ao:Option Addr) (c:Nat) :
 (Builtin.append_ #[t,t] ty #[v,.slice ao 0 c]).run P w = .ok v w:=by
 rcases Hj.2 with⟨rfl,rfl⟩|⟨g,cap,cur,rfl,_,_,hnc,_⟩
 ·cases ao <;> simp[Builtin.append_,run_underlying ht,sizeOf,typeInfo,hi,Builtin.lenOf,Builtin.firstCells,loadCells,loadCellsFrom]
 ·cases ao <;> simp[Builtin.append_,run_underlying ht,sizeOf,typeInfo,hi,Builtin.lenOf,Builtin.firstCells,hnc,storeCells,loadCells,loadCellsFrom]
theorem QGb{ops:Array Oper}{rest:List Oper}{o:Oper}{a:Act}{Q:Exit→Act→World→Prop}(aF:o.guard=none)(s x:Operand)(t:TypeId)
 (ho:o.op = .call { callee:=.builtin .append,args:=#[s,x],argTypes:=#[t,t] })
 (base:Nat) (e:TypeId) (i:TypeInfo) (size:Nat) (ht:P.underlying t=some (.slice e)) (hi:P.info? e=some i)
 (v:Value) (n:Nat) (xs:List Value) (hs:a.eval s=v) (Hj:w.ownsRow base e size v n xs) (ao:Option Addr) (c:Nat) (hx:a.eval x = .slice ao 0 c)
 (h:wpList P ops Q rest (a.put o.dst v) w):wpList P ops Q (o::rest) a w:=by
 refine wpList_plain aF fun K hK=>?_
 have Gw:=Qgi (P:=P) (w:=w) base t o.type e i size ht hi v n xs Hj ao c
 unfold Oper.wp
 simp[execOp,ho,resolve,invoke,builtin,hs,hx,Gw,Result.andThen]
 exact hK _ _ h
end
theorem Q5b{W:World}{B base size:Nat}{E:TypeId}(hB:W.heap.size=B)(hb:base≤B):(W.alloc (.cells #[] E)).ownsRow base E size (.slice (some ⟨B,0,none⟩) 0 0) 0 []:=by
 subst hB;exact World.ownsRow_made W #[] 0 hb (by unfold maxLen;omega) (by simp)
theorem QDf{w w':World}{g o B:Nat}{xs:List Value}(h:∀j u,xs[j]? = some u→w.cell? ((⟨g,o,none⟩:Addr).add j)=some u)(hg:g<B)(k:Below B w w') :
 ∀j u,xs[j]? = some u→w'.cell? ((⟨g,o,none⟩:Addr).add j)=some u:=by
 intro j u hu
 have Gq:(⟨g,o,none⟩:Addr).add j=⟨g,o+j,none⟩:=by unfold Addr.add;split <;> simp_all
 have:=h j u hu
 rw[Gq]at this ⊢
 exact(k.cell (p:=⟨g,o+j,none⟩) hg).trans this
def Qms(T:List Qba)(w:World)(a:Option Addr)(cap:Nat)(f:Nat)(x:Value)(wr:World):Prop:=
 ∃(k:Nat) (v:Value),x = .int .i64 k∧k≤T.length∧T.length≤k+f∧Holds wr (w.heap.size+1+1) #[v] 27∧Qda wr w.heap.size v (T.take k)∧
  Holds wr w.heap.size #[.slice a T.length cap] 27∧Holds wr (w.heap.size+1) #[.slice none 0 0] 27∧Below w.heap.size w wr
def QRq(T:List Qba)(w:World)(e:Ending)(w':World):Prop:=∃v,e = .returned (.agg #[v])∧Qda w' w.heap.size v T∧Below w.heap.size w w'
theorem Qpq{T:List Qba}{k:Nat}(h:k<T.length):T.take (k+1)=T.take k++[T[k]]:=List.take_succ_eq_append_getElem h
def Qls(n:Qba)(Nd:Nat)(wr:World)(y:Value)(wx:World):Prop:=
 ∃pv,y = .pointer (some ⟨Nd,0,none⟩)∧Holds wx Nd #[.int .i64 n.parent,.string n.name,pv] 46∧Qma wx wr.heap.size pv n.props∧Below wr.heap.size wr wx
set_option maxRecDepth 100000 in
theorem Qci(R:Nat→Prop)(v:Value)(T:List Qba)(w:World)(hT:Qpa R w v T)(hl:T.length≤120)(kR:∀n∈T,n.props.length≤1000) :
 Calls Tryz.prog 65 #[.agg #[v]] w (QRq T w):=by
 obtain⟨a,cap,rfl,gM,gB⟩:=hT.shape
 have HT:=hid hT;clear hT
 have fL:=hid kR;clear kR
 go_enter Tryz.func65,Tryz.ntmps65
 go_wp2_with fail
 go_loopg [9] (T.length) (fun f x wr=>Qms T w a cap f x wr)
 case atStart=>exact⟨0,_,rfl,by omega,by omega,Holds.newAt (w:=(w.alloc _).alloc _) (by simp) _ _,Qda.nil _ _,((Holds.new w _ _).alloc _).alloc _,(Holds.newAt (w:=w.alloc _) (by simp) _ _).alloc _,(((Below.refl _ _).alloc (Nat.le_refl _) _).alloc (by simp) _).alloc (by simp;omega) _⟩
 case round=>
  obtain⟨k,v,rfl,hk,hf,hO,hR,hX,hZ,hb⟩:=hrel
  have H3:=hb.size
  by_cases Hh:k<T.length
  ·obtain⟨g,o,pa,pc,rfl,hg,c0,c1,c2,hp,p1,p2,b0,b1,b2⟩:=(HT.out.new hb).at k Hh
   have gU:=fL.out T[k] (List.getElem_mem Hh)
   have Ja:QIc T[k]:=⟨b0,b1,b2⟩
   have mc:=Holds.new wr #[.int .i64 T[k].parent,.string T[k].name,.slice pa T[k].props.length pc] 46
   have He:Below wr.heap.size wr (wr.alloc (.cells #[.int .i64 T[k].parent,.string T[k].name,.slice pa T[k].props.length pc] 46)):=(Below.refl _ _).alloc (Nat.le_refl _) _
   have we:=hid (hp.new He)
   clear hp
   have MV:=hid (Qpq Hh)
   have Ci:=hid Ja
   clear Ja
   generalize T[k]=nd at *
   go_upto_region 5 with fail
   go_cut [5] (fun y wx=>Qls nd wr.heap.size wr y wx)
   case first=>
    have hE:=Holds.newAt (w:=wr.alloc (.cells #[.int .i64 nd.parent,.string nd.name,.slice pa nd.props.length pc] 46)) (B:=wr.heap.size+1) (by simp) #[] 49
    have n2:=mc.cell 2
    have f2:=mc.free 2
    have l2:=mc.lt
    obtain⟨i0,hi,H4,Hp,gj⟩:=info_parts Q4f
    by_cases hpz:nd.props.length=0
    ·have MF:nd.props=[]:=List.length_eq_zero_iff.1 hpz
     rw[hpz]at *
     have fK:=hid MF
     clear MF hpz
     go_wp2_with (at_builtin;refine QGb rfl _ _ 44 rfl wr.heap.size 49 i0 2 Tryz.underlying44 hi (.slice (some ⟨wr.heap.size+1,0,none⟩) 0 0) 0 [] rfl (by exact Q5b (by simp) (by omega)) pa pc rfl ?_)
     go_meet
     refine⟨_,rfl,(Holds.new wr _ _).alloc _,?_,((Below.refl _ _).alloc (Nat.le_refl _) _).alloc (by simp) _⟩
     rw[fK.out]
     exact⟨Q5b (by simp) (by omega),fun _ h=>by cases h⟩
    ·obtain⟨pg,po,nO,iJ,_,mG,mF,ch⟩:=we.out.row (by omega)
     subst nO
     have ll:=hid mF
     have qz:=hid mG
     clear mF mG ch
     go_wp2_with (at_builtin;refine wpList_append_own _ rfl _ _ 44 rfl wr.heap.size 49 i0 (.agg #[.string ⟨#[]⟩,.string ⟨#[]⟩]) 2 32 Tryz.underlying44 hi H4 Hp gj rfl (by decide) (.slice (some ⟨wr.heap.size+1,0,none⟩) 0 0) 0 [] rfl (by exact Q5b (by simp) (by omega)) ⟨pg,po,none⟩ nd.props.length pc (Qga nd.props) rfl (Q9a _) ?c1 ?c2 ?c3 ?c4 ?c5 ?_)
     case c1=>exact QDf ll.out iJ ((Below.refl _ _).alloc (Nat.le_refl _) _)
     case c2=>exact QSb _
     case c3=>unfold maxLen;omega
     case c4=>omega
     case c5=>simp;omega
     intro v' w5 Hg Hd _
     have rm:=(mc.alloc (.cells #[] 49)).grown Hd (fun e=>by have:wr.heap.size+1=wr.heap.size:=Option.some.inj e;omega)
     have H9:=(He.alloc (by simp) (.cells #[] 49)).grown Hd (by simp;omega) (fun q hq=>by have:wr.heap.size+1=q:=Option.some.inj hq;omega)
     clear Hd n2 f2 l2
     obtain⟨va,vc,rfl⟩:=Qea Hg
     have n2:=rm.cell 2
     have f2:=rm.free 2
     have l2:=rm.lt
     go_wp2_with fail
     go_meet
     exact⟨_,rfl,rm.set 2 _,⟨QNf Hg rm (by decide) 2 _,qz.out⟩,H9.setCell (p:=⟨wr.heap.size,2,none⟩) (Nat.le_refl _) _⟩
   case rest=>
    obtain⟨pv,rfl,hN,hP,Hi⟩:=hcut
    clear mc He
    have Mx:=hO.keeps (Qaa.of_fresh Hi (fun _=>False)) (fun e=>e)
    have ki:=hX.keeps (Qaa.of_fresh Hi (fun _=>False)) (fun e=>e)
    have Hz:=hZ.keeps (Qaa.of_fresh Hi (fun _=>False)) (fun e=>e)
    have K0:=hR.new Hi
    have Hu:=hb.trans (Hi.mono H3)
    have M1:=Hu.size
    have lY:(T.take k).length=k:=by simp;omega
    generalize T.take k=T0 at *
    obtain⟨pvs,g1,g2,g3,g4⟩:=K0
    have G3:=hid g3;have G4:=hid g4;have G1:=hid g1
    have e1:T0.length+1≤maxLen:=by unfold maxLen;omega
    have e2:(T0.length+1)*48≤140737488355328:=by omega
    clear g3 g4 g1 hX hR hO hZ lY
    obtain⟨pa2,pc2,KR⟩:=Qea hP.1
    obtain⟨xa,xc,rfl⟩:=Qea g2
    have x0:=Mx.cell 0
    have xl:=Mx.lt
    have m0:=hN.cell 0
    have m1:=hN.cell 1
    have m2:=hN.cell 2
    have ml:=hN.lt
    obtain⟨i0,hi,H4,Hp,gj⟩:=info_parts Qqk
    have Cp:=hid KR
    clear KR
    go_wp2_with (at_builtin;refine wpList_append_own _ rfl _ _ 25 rfl w.heap.size 46 i0 (.agg #[.int .i64 0,.string ⟨#[]⟩,.slice none 0 0]) 3 48 Tryz.underlying25 hi H4 Hp gj rfl (by decide) _ T0.length (QAa T0 pvs) rfl (by exact World.ownsRow.alloc g2 _) ⟨wc.heap.size,0,none⟩ 1 1 [.int .i64 nd.parent,.string nd.name,pv] rfl rfl ?d1 ?d2 ?d3 ?d4 ?d5 ?_)
    case d1=>exact Q2a _ _ _ _ rfl _ rfl
    case d2=>
     intro u hu
     simp at hu
     rcases hu with rfl|rfl|rfl
     ·rfl
     ·rfl
     ·rw[Cp.out];rfl
    case d3=>exact e1
    case d4=>exact e2
    case d5=>simp;omega
    intro v' w6 Hg Hd _
    have kX:=(Mx.alloc (.cells #[.int .i64 nd.parent,.string nd.name,pv] 46)).grown Hd (Qva g2 Mx (by decide))
    have xI:=(ki.alloc (.cells #[.int .i64 nd.parent,.string nd.name,pv] 46)).grown Hd (Qva g2 ki (by decide))
    have cZ:=(Hz.alloc (.cells #[.int .i64 nd.parent,.string nd.name,pv] 46)).grown Hd (Qva g2 Hz (by decide))
    have gG:=(Hu.alloc M1 (.cells #[.int .i64 nd.parent,.string nd.name,pv] 46)).grown Hd (by simp;omega) (fun g hg=>(g2.lt g hg).1)
    have mX:Below wc.heap.size wc (wc.alloc (.cells #[.int .i64 nd.parent,.string nd.name,pv] 46)):=(Below.refl _ _).alloc (Nat.le_refl _) _
    have K4:Qda w6 w.heap.size v' (T0++[nd]):=Qda.more G1.out (World.ownsRow.alloc g2 _) (fun q hq kT=>(G3.out q hq kT).new mX) G4.out ((hP.base H3).new mX) Ci.out Hg Hd
    obtain⟨va,vc,rfl⟩:=Qea Hg
    clear Hd Hg x0 xl m0 m1 m2 ml
    have x0:=kX.cell 0
    have xf:=kX.free 0
    have xl:=kX.lt
    go_wp2_with fail
    go_roundg (gk-1)
    case measure=>omega
    case rel=>exact⟨k+1,_,by go_num,by omega,by omega,kX.set 0 _,by rw[MV.out];exact K4.set kX (by decide) (by decide) 0 _,xI.other _ _ (by show w.heap.size≠w.heap.size+1+1;omega),cZ.other _ _ (by show w.heap.size+1≠w.heap.size+1+1;omega),gG.setCell (p:=⟨w.heap.size+1+1,0,none⟩) (by simp;omega) _⟩
  ·have aH:T.take k=T:=List.take_of_length_le (by omega)
   rw[aH]at hR
   have x0:=hO.cell 0
   have xl:=hO.lt
   have z0:=hZ.cell 0
   have zf:=hZ.free 0
   have zl:=hZ.lt
   have mW:=hR.set hZ (by decide) (by decide) 0 v
   have Hc:=hb.setCell (p:=⟨w.heap.size+1,0,none⟩) (by simp) v
   obtain⟨va,vc,hv⟩:∃va vc,v = .slice va T.length vc:=by obtain⟨_,_,g2,_⟩:=hR;exact Qea g2
   subst hv
   clear aH
   go_wp2_with fail
   have q0:(wr.setCell ⟨w.heap.size+1,0,none⟩ (.slice va T.length vc)).cell? ⟨w.heap.size+1,0,none⟩=some (.slice va T.length vc):=(hZ.set 0 _).cell 0
   exact bodyPost_ret (v:=.agg #[.slice va T.length vc]) (by simp[results,Tryz.results65,go_sem,q0]) rfl ⟨_,rfl,mW,Hc⟩
theorem Quj:(Tryz.prog.info? 39).map (fun i=>(i.zero,i.size,i.bytes))=some (some (.agg #[.int .i64 0,.string ⟨#[]⟩,.string ⟨#[]⟩,.string ⟨#[]⟩]),4,56):=by kernel_rfl
theorem Qge(a b:List Qja):Qqa (a++b)=Qqa a++Qqa b:=by simp[Qqa]
theorem QPc(x:Qja)(b:List Qja):Qqa (x::b)=[.int .i64 x.kind,.string x.path,.string x.name,.string x.value]++Qqa b:=rfl
theorem QRd:∀(l:List Qja) (k:Nat),Qqa (l.take k)=(Qqa l).take (k*4)
 | [],k=>by simp[Qqa]
 | p::l,0=>by simp[Qqa]
 | p::l,k+1=>by
  rw[show(k+1)*4=k*4+1+1+1+1 from by omega]
  simp only[List.take_succ_cons,QPc,List.cons_append,List.nil_append]
  rw[QRd l k]
theorem Qmf:∀(l:List Qja) (k:Nat),Qqa (l.drop k)=(Qqa l).drop (k*4)
 | [],k=>by simp[Qqa]
 | p::l,0=>by simp[Qqa]
 | p::l,k+1=>by
  rw[show(k+1)*4=k*4+1+1+1+1 from by omega]
  simp only[List.drop_succ_cons,QPc,List.cons_append,List.nil_append]
  rw[Qmf l k]
theorem Qgq{w:World}{base:Nat}{e:TypeId}{g n cap:Nat}{xs:List Value}(h:w.ownsRow base e 4 (.slice (some ⟨g,0,none⟩) n cap) n xs)(p:Nat):∀j u,(xs.drop (p*4))[j]? = some u→w.cell? ((⟨g,p*4,none⟩:Addr).add j)=some u:=by
 intro j u hu
 have Gq:(⟨g,p*4,none⟩:Addr).add j=⟨g,p*4+j,none⟩:=by unfold Addr.add;split <;> simp_all
 rw[List.getElem?_drop]at hu
 have hj:=(List.getElem?_eq_some_iff.1 hu).1
 rw[Gq,h.cellAt (p*4+j) (by have:=h.1;omega),hu]
theorem QYk{w:World}{base:Nat}{e:TypeId}{g n cap:Nat}{xs:List Value}(h:w.ownsRow base e 4 (.slice (some ⟨g,0,none⟩) n cap) n xs)(p:Nat):∀j u,(xs.take p)[j]? = some u→w.cell? ((⟨g,0,none⟩:Addr).add j)=some u:=by
 intro j u hu
 have Gq:(⟨g,0,none⟩:Addr).add j=⟨g,j,none⟩:=by unfold Addr.add;split <;> simp_all
 have hj:=(List.getElem?_eq_some_iff.1 hu).1
 simp at hj
 rw[List.getElem?_take,if_pos (by omega)]at hu
 rw[Gq,h.cellAt j (by have:=h.1;omega),hu]
theorem Qeo(a b:Qja)(w:World) :
 Calls Tryz.prog 56 #[.agg #[.int .i64 a.kind,.string a.path,.string a.name,.string a.value],.agg #[.int .i64 b.kind,.string b.path,.string b.name,.string b.value]] w fun e w'=>e = .returned (.bool (ltE a b))∧Below w.heap.size w w':=by
 have He:Below w.heap.size w ((w.alloc (.cells #[.int .i64 a.kind,.string a.path,.string a.name,.string a.value] 39)).alloc (.cells #[.int .i64 b.kind,.string b.path,.string b.name,.string b.value] 39)):=((Below.refl _ _).alloc (Nat.le_refl _) _).alloc (by simp) _
 cases h1:Op.bytesLess a.path.toList b.path.toList with
 | true=>
  have HR:=hid (show ltE a b=true from by unfold ltE;rw[show ltS a.path b.path=true from h1];rfl)
  generalize ltE a b=R at *
  go_enter Tryz.func56,Tryz.ntmps56
  go_wp2_with fail
  go_ret
  exact⟨by rw[HR.out];rfl,He⟩
 | false=>
  cases h2:(a.path.toList == b.path.toList)with
  | false=>
   have HR:=hid (show ltE a b=false from by unfold ltE;rw[show ltS a.path b.path=false from h1,show eqS a.path b.path=false from h2];rfl)
   generalize ltE a b=R at *
   go_enter Tryz.func56,Tryz.ntmps56
   go_wp2_with fail
   go_ret
   exact⟨by rw[HR.out];rfl,He⟩
  | true=>
   cases h3:Op.bytesLess a.name.toList b.name.toList with
   | true=>
    have HR:=hid (show ltE a b=true from by unfold ltE;rw[show ltS a.path b.path=false from h1,show eqS a.path b.path=true from h2,show ltS a.name b.name=true from h3];rfl)
    generalize ltE a b=R at *
    go_enter Tryz.func56,Tryz.ntmps56
    go_wp2_with fail
    go_ret
    exact⟨by rw[HR.out];rfl,He⟩
   | false=>
    have HR:=hid (show ltE a b=false from by unfold ltE;rw[show ltS a.path b.path=false from h1,show eqS a.path b.path=true from h2,show ltS a.name b.name=false from h3];rfl)
    generalize ltE a b=R at *
    go_enter Tryz.func56,Tryz.ntmps56
    go_wp2_with fail
    go_ret
    exact⟨by rw[HR.out];rfl,He⟩
theorem QGa.nil_of{R:Nat→Prop}{w:World}{n cap:Nat}{ps:List Qla}(h:QGa R w (.slice none n cap) ps):ps=[]:=by
 obtain⟨a,c,e,_,_,h3⟩:=h
 cases e
 by_cases h0:0<ps.length
 ·obtain⟨g,o,e,_⟩:=h3 h0;cases e
 ·exact List.length_eq_zero_iff.1 (by omega)
theorem Qam(R:Nat→Prop)(v:Value)(ps:List Qla)(w:World)(hP:QGa R w v ps)(hl:ps.length≤1000) :
 Calls Tryz.prog 76 #[v] w fun e w'=>∃v',e = .returned v'∧Qma w' w.heap.size v' ps∧Below w.heap.size w w':=by
 obtain⟨a,cap,rfl,gM,gB⟩:=hP.shape
 obtain⟨i0,hi,H4,Hp,gj⟩:=info_parts Q4f
 have q40:∀(w:World) (a:Option Addr) (n c:Nat),(binOp .eql 44 (.slice a n c) (.slice none 0 0)).run Tryz.prog w = .ok (.bool a.isNone) w:=fun w a n c=>Lib.run_eql_slice_nil w _ _ a n c 0 0 Tryz.underlying44
 cases a with
 | none=>
  have MF:=hid hP.nil_of
  clear hP
  go_enter Tryz.func76,Tryz.ntmps76
  go_wp2_with fail
  go_ret
  exact⟨_,rfl,by rw[MF.out];exact Qma.nil _ _,Below.refl _ _⟩
 | some ad=>
  have HP:=hid hP
  clear hP
  by_cases hpz:ps.length=0
  ·have MF:ps=[]:=List.length_eq_zero_iff.1 hpz
   rw[hpz]at *
   have fK:=hid MF
   clear MF hpz
   go_enter Tryz.func76,Tryz.ntmps76
   go_wp2_with (at_builtin;refine QGb rfl _ _ 44 rfl w.heap.size 49 i0 2 Tryz.underlying44 hi (.slice (some ⟨w.heap.size,0,none⟩) 0 0) 0 [] rfl (by exact Q5b rfl (by omega)) (some ad) cap rfl ?_)
   go_ret
   refine⟨_,rfl,?_,(Below.refl _ _).alloc (by omega) _⟩
   rw[fK.out]
   exact⟨Q5b rfl (by omega),fun _ h=>by cases h⟩
  ·obtain⟨pg,po,nO,iJ,_,mG,mF,ch⟩:=HP.out.row (by omega)
   obtain rfl:ad=⟨pg,po,none⟩:=by simpa using nO
   have ll:=hid mF
   have qz:=hid mG
   have He:Below w.heap.size w (w.alloc (.cells #[] 49)):=(Below.refl _ _).alloc (Nat.le_refl _) _
   clear mF mG ch nO
   go_enter Tryz.func76,Tryz.ntmps76
   go_wp2_with (at_builtin;refine wpList_append_own _ rfl _ _ 44 rfl w.heap.size 49 i0 (.agg #[.string ⟨#[]⟩,.string ⟨#[]⟩]) 2 32 Tryz.underlying44 hi H4 Hp gj rfl (by decide) (.slice (some ⟨w.heap.size,0,none⟩) 0 0) 0 [] rfl (by exact Q5b rfl (by omega)) ⟨pg,po,none⟩ ps.length cap (Qga ps) rfl (Q9a _) ?c1 ?c2 ?c3 ?c4 ?c5 ?_)
   case c1=>exact QDf ll.out iJ ((Below.refl _ _).alloc (Nat.le_refl _) _)
   case c2=>exact QSb _
   case c3=>unfold maxLen;omega
   case c4=>omega
   case c5=>simp
   intro v' w5 Hg Hd _
   have H9:=He.grown Hd (by simp) (fun q hq=>by have:w.heap.size=q:=Option.some.inj hq;omega)
   go_wp2_with fail
   go_ret
   exact⟨_,rfl,⟨by simpa using Hg,qz.out⟩,H9⟩
theorem QBk(n:Nat)(hn:n≤1000)(wx:World):(Instr.makeSlice 22 (.int .i64 n) (.int .i64 n)).run Tryz.prog wx = .ok (.slice (some ⟨wx.heap.size,0,none⟩) n n) (wx.alloc (.cells (Array.replicate n (.int .i64 0)) 3)):=by
 obtain⟨i0,hi,H4,Hp,gj⟩:=info_parts Qsp
 have:=run_make (P:=Tryz.prog) wx 22 3 i0 _ Tryz.underlying22 hi H4 .i64 .i64 n n (by omega) (by omega) (by rw[gj];omega) (by omega)
 rw[this,Hp,show(Value.int .i64 0).cells=#[.int .i64 0]from rfl]
 simp[Qle]
def QFd(l:List Nat):Array Value:=(Qna l).toArray
theorem QZh(l:List Nat)(k:Nat)(h:k<l.length):(QFd l)[k]? = some (.int .i64 (l[k]:Int)):=by simp[QFd,Qna,h]
theorem QXi(l:List Nat)(k x:Nat):(QFd l).setIfInBounds k (.int .i64 (x:Int))=QFd (l.set k x):=by simp[QFd,Qna,List.map_set]
def Qku(L:List Qba)(AB:Nat)(wl:World)(f:Nat)(x:Value)(wr:World):Prop:=
 ∃(i:Nat) (l:List Nat),x = .int .i64 i∧i≤L.length∧L.length≤i+f∧l.length=L.length∧(∀(q:Nat) (_:q<i) (hq:q<(Qab L).length),l.getD (Qab L)[q] 0=q)∧
  Holds wr AB (QFd l) 3∧Qaa (fun b=>b=AB) wl wr
theorem Qir(l:List Nat)(a x b:Nat)(ha:a<l.length):(l.set a x).getD b 0=if a=b then x else l.getD b 0:=by
 rw[List.getD_eq_getElem?_getD,List.getElem?_set,List.getD_eq_getElem?_getD]
 by_cases h:a=b
 ·subst h;rw[if_pos rfl,if_pos ha,if_pos rfl];rfl
 ·rw[if_neg h,if_neg h]
def QJb(w:World)(b1 b2:Nat)(v:Value)(T:List Qba):Prop:=
 ∃pvs:List Value,pvs.length=T.length∧w.ownsRow b1 46 3 v T.length (QAa T pvs)∧(∀k (_:k<T.length) (_:k<pvs.length),Qma w b2 pvs[k] T[k].props)∧∀n∈T,QIc n
theorem QJb.one{w:World}{b1 b2:Nat}{v:Value}{T:List Qba}(h:QJb w b1 b2 v T)(hb:b2≤b1):Qda w b2 v T:=by
 obtain⟨pvs,h1,h2,h3,h4⟩:=h
 exact⟨pvs,h1,Q8b h2 hb,h3,h4⟩
theorem QJb.new{w w':World}{b1 b2:Nat}{v:Value}{T:List Qba}(h:QJb w b1 b2 v T)(k:Below w.heap.size w w'):QJb w' b1 b2 v T:=by
 obtain⟨pvs,h1,h2,h3,h4⟩:=h
 exact⟨pvs,h1,Qhb h2 k,fun j hj Gu=>(h3 j hj Gu).new k,h4⟩
theorem QJb.set{w:World}{b1 b2 b:Nat}{t:TypeId}{v:Value}{T:List Qba}{cs:Array Value}(h:QJb w b1 b2 v T)(hH:Holds w b cs t)(Hm:t≠46)(kN:t≠49)(o:Nat)(x:Value):QJb (w.setCell ⟨b,o,none⟩ x) b1 b2 v T:=by
 obtain⟨pvs,h1,h2,h3,h4⟩:=h
 exact⟨pvs,h1,QNf h2 hH Hm o x,fun j hj Gu=>(h3 j hj Gu).set hH kN o x,h4⟩
theorem QJb.more{w w':World}{b1 b2:Nat}{v v' pv:Value}{T:List Qba}{pvs:List Value}{n:Qba}(h1:pvs.length=T.length)(h2:w.ownsRow b1 46 3 v T.length (QAa T pvs))
 (h3:∀k (_:k<T.length) (_:k<pvs.length),Qma w b2 pvs[k] T[k].props) (h4:∀n∈T,QIc n) (hp:Qma w b2 pv n.props) (hn:QIc n)
 (Hj:w'.ownsRow b1 46 3 v' (T.length+1) (QAa T pvs++[.int .i64 n.parent,.string n.name,pv])) (hg:w.grownBy w' v.ownBlock):QJb w' b1 b2 v' (T++[n]):=by
 refine⟨pvs++[pv],by simp[h1],?_,?_,?_⟩
 ·rw[Qkc T pvs n pv h1,List.length_append];exact Hj
 ·intro k hk gJ
  by_cases e:k<T.length
  ·have:Qma w' b2 pvs[k] T[k].props:=(h3 k e (by omega)).apart h2 hg (by decide)
   simpa[List.getElem_append_left,e,h1]using this
  ·have e2:k=T.length:=by simp at hk;omega
   subst e2
   have:Qma w' b2 pv n.props:=hp.apart h2 hg (by decide)
   simpa[List.getElem_append_right,h1]using this
 ·intro m hm
  rcases List.mem_append.1 hm with hm|hm
  ·exact h4 m hm
  ·simp at hm;subst hm;exact hn
theorem QJb.nil(w:World)(b1 b2:Nat):QJb w b1 b2 (.slice none 0 0) []:=⟨[],rfl,World.ownsRow_nil _ _ _ _,fun k h=>absurd h (Nat.not_lt_zero k),fun _ h=>by cases h⟩
def Qps(L:List Qba)(base OB:Nat)(w2:World)(f:Nat)(x:Value)(wr:World):Prop:=
 ∃(i:Nat) (v:Value),x = .int .i64 i∧i≤L.length∧L.length≤i+f∧QJb wr w2.heap.size base v ((Qoa L).take i)∧Holds wr OB #[v] 27∧Below w2.heap.size w2 wr
theorem Qda.at{w:World}{base g n cap:Nat}{T:List Qba}(h:Qda w base (.slice (some ⟨g,0,none⟩) n cap) T)(k:Nat)(hk:k<T.length) :
 ∃pv pa pc,pv = .slice pa T[k].props.length pc∧w.cell? ⟨g,k*3,none⟩=some (.int .i64 T[k].parent)∧w.cell? ⟨g,k*3+1,none⟩=some (.string T[k].name)∧w.cell? ⟨g,k*3+2,none⟩=some pv∧Qma w base pv T[k].props∧QIc T[k]:=by
 obtain⟨pvs,h1,h2,h3,h4⟩:=h
 have hn:n=T.length:=by
  rcases h2.2 with⟨e,_⟩|⟨_,_,_,e,_⟩
  ·cases e
  ·cases e;rfl
 subst hn
 obtain⟨a0,a1,a2⟩:=QXc T pvs k hk (by omega) h1
 have hp:=h3 k hk (by omega)
 obtain⟨pa,pc,KR⟩:=Qea hp.1
 exact⟨_,pa,pc,KR,(h2.cellAt _ (by omega)).trans a0,(h2.cellAt _ (by omega)).trans a1,(h2.cellAt _ (by omega)).trans a2,hp,h4 _ (List.getElem_mem hk)⟩
theorem Qda.keeps{S:Nat→Prop}{w w':World}{base:Nat}{v:Value}{T:List Qba}(h:Qda w base v T)(k:Qaa S w w')(hs:∀g,S g→w.heap.size≤g∨∃cs t,Holds w g cs t∧t≠46∧t≠49):Qda w' base v T:=by
 obtain⟨pvs,h1,h2,h3,h4⟩:=h
 have key:∀{e:TypeId} {size:Nat} {v:Value} {n:Nat} {xs:List Value},w.ownsRow base e size v n xs→e=46∨e=49→w'.ownsRow base e size v n xs:=by
  intro e size v n xs ho he
  refine Qca ho k (fun g hg Hr=>?_)
  rcases hs g Hr with h|⟨cs,t,hH,n1,n2⟩
  ·have:=(ho.lt g hg).2;omega
  ·refine Qva ho hH ?_ hg
   rcases he with rfl|rfl
   ·exact n1
   ·exact n2
 exact⟨pvs,h1,key h2 (.inl rfl),fun j hj Gu=>⟨key (h3 j hj Gu).1 (.inr rfl),(h3 j hj Gu).2⟩,h4⟩
def Qos(L:List Qba)(k Nd:Nat)(pv:Value)(wr:World)(y:Value)(wx:World):Prop:=
 y = .pointer (some ⟨Nd,0,none⟩)∧Holds wx Nd #[.int .i64 (Q4b L k).parent,.string (Q4b L k).name,pv] 46∧Below wr.heap.size wr wx
set_option maxRecDepth 100000 in
theorem Qgm(base:Nat)(v:Value)(L:List Qba)(w:World)(hT:Qda w base v L)(Gv:Par L)(hl0:0<L.length)(hl:L.length≤120)(gi:base≤w.heap.size) :
 Calls Tryz.prog 104 #[.agg #[v]] w fun e w'=>∃v',e = .returned (.agg #[v'])∧Qda w' base v' (Qoa L)∧Below w.heap.size w w':=by
 obtain⟨lg,lc,rfl,hlg⟩:∃lg lc,v = .slice (some ⟨lg,0,none⟩) L.length lc∧lg<w.heap.size:=by
  obtain⟨_,_,g2,_⟩:=hT
  obtain⟨g,c,e,_,h2⟩:=g2.form hl0
  exact⟨g,c,e,h2⟩
 have HT:=hid hT
 have M4:=fun wx hx=>QWk (fun g=>base≤g) (.slice (some ⟨lg,0,none⟩) L.length lc) L Gv hl L.length 0 wx hx hl0 (by omega)
 unfold Qdh at M4
 simp only[Nat.sub_zero]at M4
 have M0:=Q5c Gv hl0
 rw[show QYa L L.length 0=Qab L from rfl,show((0:Nat):Int)=0 from rfl,M0]at M4
 have dK:=hid M4
 have lk:=hid M0
 have jb:=hid Gv
 obtain⟨eZ,Hf⟩:=Qlc Gv hl0
 have mr:=hid eZ
 have li:=hid (QWc Hf)
 clear hT M4 M0 Gv eZ Hf
 have iD:=QBk L.length (by omega)
 go_enter Tryz.func104,Tryz.ntmps104
 go_wp2_with fail
 refine(dK.out _ (by exact(HT.out.new (((Below.refl _ _).alloc (Nat.le_refl _) _).alloc (by simp) _)).in)).mono ?_
 rintro e w1 ⟨rv,rfl,Hj,Hb⟩
 have H5:=((Holds.new w #[.slice (some ⟨lg,0,none⟩) L.length lc] 27).alloc (.cells #[.slice none 0 0] 27)).keeps (Qaa.of_fresh Hb (fun _=>False)) (fun e=>e)
 have Hs:=(Holds.newAt (w:=w.alloc (.cells #[.slice (some ⟨lg,0,none⟩) L.length lc] 27)) (B:=w.heap.size+1) (by simp) #[.slice none 0 0] 27).keeps (Qaa.of_fresh Hb (fun _=>False)) (fun e=>e)
 have Hc:Below w.heap.size w w1:=(((Below.refl _ _).alloc (Nat.le_refl _) _).alloc (by simp) _).trans (Hb.mono (by simp;omega))
 have GE:=HT.out.new Hc
 obtain⟨og,oc,rfl,tH,yV⟩:=Hj.form hl0
 simp only[World.size_alloc]at tH
 have ko:=Hb.size
 simp only[World.size_alloc]at ko
 have x0:=H5.cell 0
 have xl:=H5.lt
 clear Hb dK
 go_wp2_with fail
 clear iD x0 xl
 have AI:=Holds.new w1 (QFd (List.replicate L.length 0)) 3
 have fe:QFd (List.replicate L.length 0)=Array.replicate L.length (.int .i64 0):=by simp[QFd,Qna]
 go_loopg [19] (L.length) (fun f x wr=>Qku L w1.heap.size (w1.alloc (.cells (Array.replicate L.length (.int .i64 0)) 3)) f x wr)
 case atStart=>exact⟨0,List.replicate L.length 0,rfl,by omega,by omega,by simp,fun q hq=>absurd hq (Nat.not_lt_zero q),by rw[←fe];exact AI,Qaa.refl _ _⟩
 case round=>
  obtain⟨i,l,rfl,hi,hf,j8,By,hA,hK⟩:=hrel
  clear AI fe
  have vU:=hid By
  clear By
  by_cases Hh:i<L.length
  ·have Mk:i<(Qab L).length:=by rw[lk.out];exact Hh
   have hk:=(mr.out _).1 (List.getElem_mem Mk)
   have J6:=(hK.cell (p:=⟨og,i,none⟩) (by simp;omega) (by show ¬og=w1.heap.size;omega)).trans ((Hj.alloc _).cellAt i (by omega))
   rw[show(Qna (Qab L))[i]? = some (.int .i64 ((Qab L)[i]:Int))from by simp[Qna,Mk]]at J6
   have Hm:=hid (fun(q:Nat) (hq:q<i) (vr:q<(Qab L).length) (e:(Qab L)[q]=(Qab L)[i])=>by
    have:=(List.getElem_inj li.out).1 e;omega:∀(q:Nat) (hq:q<i) (vr:q<(Qab L).length),(Qab L)[q]=(Qab L)[i]→False)
   have K9:∀(q:Nat) (_:q<i+1) (hq:q<(Qab L).length),(l.set (Qab L)[i] i).getD (Qab L)[q] 0=q:=by
    intro q hq vr
    rw[Qir _ _ _ _ (by omega)]
    by_cases e:q=i
    ·subst e;rw[if_pos rfl]
    ·rw[if_neg (fun x=>Hm.out q (by omega) vr x.symm)];exact vU.out q (by omega) vr
   have vW:=hid K9
   clear K9 Hm
   have a0:∃x:Int,wr.cell? ⟨w1.heap.size,(Qab L)[i],none⟩=some (.int .i64 x):=⟨_,(hA.cell _).trans (QZh l _ (by omega))⟩
   have af:=hA.free ((Qab L)[i])
   have al:=hA.lt
   have gF:=hA.set (Qab L)[i] (.int .i64 (i:Int))
   rw[QXi]at gF
   generalize (Qab L)[i]=c at *
   obtain⟨a1,a0⟩:=a0
   clear Mk
   go_wp2_with fail
   go_roundg (gk-1)
   case measure=>omega
   case rel=>exact⟨i+1,l.set c i,by go_num,by omega,by omega,by simpa using j8,vW.out,gF,hK.setCell (p:=⟨w1.heap.size,c,none⟩) (.inr rfl) _⟩
  ·have si:=hid (show ∀(q:Nat) (hq:q<(Qab L).length),l.getD (Qab L)[q] 0=q from fun q hq=>vU.out q (by have:=lk.out;omega) hq)
   clear vU hi hf
   have GK:=(H5.alloc (.cells (Array.replicate L.length (.int .i64 0)) 3)).keeps hK (by have:=H5.lt;omega)
   have Hw:=(Hs.alloc (.cells (Array.replicate L.length (.int .i64 0)) 3)).keeps hK (by have:=Hs.lt;omega)
   have Ht:=Qca (World.ownsRow.alloc Hj (.cells (Array.replicate L.length (.int .i64 0)) 3)) hK (fun g hg e=>by have e2:og=g:=Option.some.inj hg;omega)
   have Gx:Qda wr base (.slice (some ⟨lg,0,none⟩) L.length lc) L:=(GE.new ((Below.refl _ _).alloc (Nat.le_refl _) _)).keeps hK (fun g e=>by
    subst e
    exact .inr ⟨_,_,Holds.new w1 (Array.replicate L.length (.int .i64 0)) 3,by decide,by decide⟩)
   have Hi:Below w.heap.size w wr:=(Hc.alloc Hc.size _).trans (hK.below (by simp;omega) (fun i hi e=>by have:=Hc.size;omega))
   clear H5 Hs Hj GE Hc hK
   obtain⟨w2,rfl⟩:∃x:World,x=wr:=⟨_,rfl⟩
   have ud:=Hi.size
   have Mx:=Holds.new w2 #[.slice none 0 0] 27
   have yW:=(Ht.lt og rfl).2
   have gn:=hA.lt
   have ki:=GK.lt
   have Hz:=Hw.lt
   go_wp2_with fail
   go_loopg [31] (L.length) (fun f x wr=>Qps L base w2.heap.size w2 f x wr)
   case atStart=>exact⟨0,_,rfl,by omega,by omega,by exact QJb.nil _ _ _,Mx,(Below.refl _ _).alloc (Nat.le_refl _) _⟩
   case round=>
    obtain⟨go,rfl⟩:∃x:Nat,x=gk:=⟨_,rfl⟩
    obtain⟨i,v,rfl,hi,hf,hR,hO,hb⟩:=hrel
    clear Mx
    have H3:=hb.size
    by_cases Hh:i<L.length
    ·have Mk:i<(Qab L).length:=by rw[lk.out];exact Hh
     have hk:=(mr.out _).1 (List.getElem_mem Mk)
     have J6:=(hb.cell (p:=⟨og,i,none⟩) yW).trans (Ht.cellAt i (by omega))
     rw[show(Qna (Qab L))[i]? = some (.int .i64 ((Qab L)[i]:Int))from by simp[Qna,Mk]]at J6
     have MV:=hid (show(Qoa L).take (i+1)=(Qoa L).take i++[Q4b L (Qab L)[i]]from by
      have h2:i<(Qoa L).length:=by simp[Qoa];exact Mk
      rw[List.take_succ_eq_append_getElem h2];simp[Qoa])
     have lY:=hid (show((Qoa L).take i).length=i from by simp[Qoa];omega)
     generalize (Qoa L).take i=T0 at *
     generalize (Qab L)[i]=k at *
     clear Mk
     obtain⟨_,pa,pc,rfl,c0,c1,c2,hp,mj⟩:=(Gx.new hb).at k hk
     have aK:=(GK.keeps (Qaa.of_fresh hb (fun _=>False)) (fun e=>e))
     have bx:=aK.cell 0
     have blt:=aK.lt
     have hlg2:lg<wr.heap.size:=by omega
     have HP:=hid hp
     have Ke:=hid mj
     have iD:(Q4b L k).name=L[k].name∧(Q4b L k).props=L[k].props:=⟨QEa hk,QOa hk⟩
     have M8:=hid iD
     clear hp mj iD
     have mc:=Holds.new wr #[.int .i64 L[k].parent,.string L[k].name,.slice pa L[k].props.length pc] 46
     have He:Below wr.heap.size wr (wr.alloc (.cells #[.int .i64 L[k].parent,.string L[k].name,.slice pa L[k].props.length pc] 46)):=(Below.refl _ _).alloc (Nat.le_refl _) _
     go_upto_if 41 with fail
     go_cut [10] (fun y wx=>Qos L k wr.heap.size (.slice pa L[k].props.length pc) wr y wx)
     case first=>
      have n0:=mc.cell 0
      have nf:=mc.free 0
      have nl:=mc.lt
      by_cases GF:k=0
      ·have gz:¬(0:Int)<(k:Int):=by omega
       have yL:=hid (show(Q4b L k).parent=L[k].parent from by
        unfold Q4b;simp only;rw[if_pos GF];subst GF;exact Qsa hk)
       clear GF
       go_wp2_with fail
       go_meet
       exact⟨rfl,by rw[yL.out,M8.out.1];exact mc,He⟩
      ·have gz:(0:Int)<(k:Int):=by omega
       have gU:=Q3a jb.out (by omega:0<k) hk
       obtain⟨tP,jp⟩:=gU
       rw[Qsa hk]at jp
       have tQ:=(mr.out (Qwb L k)).2 (by omega)
       obtain⟨tN,GP⟩:=Qsj tQ
       have vi:=si.out _ tN
       rw[GP]at vi
       have yL:=hid (show(Q4b L k).parent=(((Qab L).idxOf (Qwb L k):Nat):Int)from by unfold Q4b;simp only;rw[if_neg GF])
       have a0:wr.cell? ⟨w1.heap.size,Qwb L k,none⟩=some (.int .i64 (((Qab L).idxOf (Qwb L k):Nat):Int)):=by
        refine(hb.cell (p:=⟨w1.heap.size,Qwb L k,none⟩) gn).trans ((hA.cell _).trans ?_)
        rw[QZh l _ (by omega)]
        rw[List.getD_eq_getElem?_getD,List.getElem?_eq_getElem (by omega)]at vi
        rw[←vi];rfl
       have gQ:w1.heap.size<wr.heap.size:=by omega
       have hidl:(Qab L).idxOf (Qwb L k)<L.length:=by have:=lk.out;omega
       clear GF tQ tN GP vi
       generalize (Qab L).idxOf (Qwb L k)=ix at *
       have qy:=hid jp
       have pM:L[k].parent=((Qwb L k:Nat):Int):=jp.symm
       clear jp
       generalize Qwb L k=pk at *
       rw[pM]at *
       clear pM
       go_wp2_with fail
       go_meet
       exact⟨rfl,by rw[yL.out,M8.out.1];exact Holds.new wr _ _,(Below.refl _ _).alloc (Nat.le_refl _) _⟩
     case rest=>
      obtain⟨rfl,hN,Hu⟩:=hcut
      clear mc He bx blt aK c0 c1 c2 J6
      have KY:=hO.keeps (Qaa.of_fresh Hu (fun _=>False)) (fun e=>e)
      have H9:=hb.trans (Hu.mono H3)
      have iS:=H9.size
      have rq:Qma wc base (.slice pa L[k].props.length pc) (Q4b L k).props:=by rw[M8.out.2];exact HP.out.new Hu
      have tI:QIc (Q4b L k):=by
       refine⟨by rw[M8.out.1];exact Ke.out.1,?_,?_⟩
       ·unfold Q4b;simp only
        split
        ·rename_i h;subst h;rw[Qsa hk];exact Ke.out.2.1
        ·omega
       ·unfold Q4b;simp only
        split
        ·rename_i h;subst h;rw[Qsa hk];exact Ke.out.2.2
        ·have h1:(Qab L).idxOf (Qwb L k)≤(Qab L).length:=List.idxOf_le_length
         have h2:=lk.out;omega
      obtain⟨pvs,g1,g2,g3,g4⟩:=hR.new Hu
      have G3:=hid g3;have G4:=hid g4;have G1:=hid g1;have Cn:=hid rq;have vZ:=hid tI
      have xB:=lY.out
      have e1:T0.length+1≤maxLen:=by unfold maxLen;omega
      have e2:(T0.length+1)*48≤140737488355328:=by omega
      clear g3 g4 g1 hR hO xB rq tI
      obtain⟨xa,xc,rfl⟩:=Qea g2
      have x0:=KY.cell 0
      have xl:=KY.lt
      have m0:=hN.cell 0
      have m1:=hN.cell 1
      have m2:=hN.cell 2
      have ml:=hN.lt
      generalize hmt:Q4b L k=nd at *
      have HMT:=hid hmt
      clear hmt
      obtain⟨i0,ab,H4,Hp,gj⟩:=info_parts Qqk
      go_wp2_with (at_builtin;refine wpList_append_own _ rfl _ _ 25 rfl w2.heap.size 46 i0 (.agg #[.int .i64 0,.string ⟨#[]⟩,.slice none 0 0]) 3 48 Tryz.underlying25 ab H4 Hp gj rfl (by decide) _ T0.length (QAa T0 pvs) rfl (by exact World.ownsRow.alloc g2 _) ⟨wc.heap.size,0,none⟩ 1 1 [.int .i64 nd.parent,.string nd.name,.slice pa L[k].props.length pc] rfl rfl ?d1 ?d2 ?d3 ?d4 ?d5 ?_)
      case d1=>exact Q2a _ _ _ _ rfl _ rfl
      case d2=>
       intro u hu
       simp at hu
       rcases hu with rfl|rfl|rfl <;> rfl
      case d3=>exact e1
      case d4=>exact e2
      case d5=>simp;omega
      intro v' w6 Hg Hd _
      have kX:=(KY.alloc (.cells #[.int .i64 nd.parent,.string nd.name,.slice pa L[k].props.length pc] 46)).grown Hd (Qva g2 KY (by decide))
      have gG:=(H9.alloc iS (.cells #[.int .i64 nd.parent,.string nd.name,.slice pa L[k].props.length pc] 46)).grown Hd (by simp;omega) (fun g hg=>(g2.lt g hg).1)
      have mX:Below wc.heap.size wc (wc.alloc (.cells #[.int .i64 nd.parent,.string nd.name,.slice pa L[k].props.length pc] 46)):=(Below.refl _ _).alloc (Nat.le_refl _) _
      have K4:QJb w6 w2.heap.size base v' (T0++[nd]):=QJb.more G1.out (World.ownsRow.alloc g2 _) (fun q hq kT=>(G3.out q hq kT).new mX) G4.out (Cn.out.new mX) vZ.out Hg Hd
      obtain⟨va,vc,rfl⟩:=Qea Hg
      clear Hd Hg x0 xl m0 m1 m2 ml
      have x0:=kX.cell 0
      have xf:=kX.free 0
      have xl:=kX.lt
      go_wp2_with fail
      go_roundg (go-1)
      case measure=>omega
      case rel=>exact⟨i+1,_,by go_num,by omega,by omega,by rw[MV.out];exact K4.set kX (by decide) (by decide) 0 _,kX.set 0 _,gG.setCell (p:=⟨w2.heap.size,0,none⟩) (Nat.le_refl _) _⟩
    ·have aH:(Qoa L).take i=Qoa L:=List.take_of_length_le (by simp[Qoa];have:=lk.out;omega)
     rw[aH]at hR
     have Jd:(Qoa L).length=L.length:=by simp[Qoa];exact lk.out
     have gK:=Hw.keeps (Qaa.of_fresh hb (fun _=>False)) (fun e=>e)
     have x0:=hO.cell 0
     have xl:=hO.lt
     have zl:=gK.lt
     have z0:=gK.cell 0
     have zf:=gK.free 0
     have mW:Qda wr base v (Qoa L):=hR.one (by omega)
     have K0:=mW.set gK (by decide) (by decide) 0 v
     have gZ:=(Hi.trans (hb.mono ud)).setCell (p:=⟨w.heap.size+1,0,none⟩) (by simp) v
     obtain⟨va,vc,hv⟩:∃va vc,v = .slice va L.length vc:=by obtain⟨_,_,g2,_⟩:=hR;rw[Jd]at g2;exact Qea g2
     subst hv
     clear aH Jd
     go_wp2_with fail
     have q0:(wr.setCell ⟨w.heap.size+1,0,none⟩ (.slice va L.length vc)).cell? ⟨w.heap.size+1,0,none⟩=some (.slice va L.length vc):=(gK.set 0 _).cell 0
     exact bodyPost_ret (v:=.agg #[.slice va L.length vc]) (by simp[results,Tryz.results104,go_sem,q0]) rfl ⟨_,rfl,K0,gZ⟩
def Qyd(E:List Qba × Int)(w:World)(e:Ending)(w':World):Prop:=∃v,e = .returned (.tuple #[.agg #[v],.int .i64 E.2])∧Qda w' w.heap.size v E.1∧Below w.heap.size w w'
theorem Qrc{T:List Qba}(h:Qfa T=0):∀n∈T,n.props.length≤1000:=by
 intro n hn
 obtain⟨k,hk,rfl⟩:=List.mem_iff_getElem.1 hn
 have h2:=QPa h
 unfold Qza at h2
 rw[Bool.and_eq_true,List.all_eq_true]at h2
 have:=h2.2 _ hn
 rw[QOh,Bool.and_eq_true,decide_eq_true_iff]at this
 omega
set_option maxRecDepth 100000 in
theorem QKr(R:Nat→Prop)(v:Value)(T:List Qba)(s name:ByteArray)(w:World)(hT:Qpa R w v T)(KQ:name.size≤9223372036854775807) :
 Calls Tryz.prog 62 #[.agg #[v],.string s,.string name] w (Qyd (Q3c T s name) w):=by
 obtain⟨a,cap,rfl,gM,gB⟩:=hT.shape
 have HT:=hid hT;clear hT
 have G0:=fun wx hx=>Q0i R (.slice a T.length cap) T s wx hx
 have He:Below w.heap.size w ((w.alloc (.cells #[.slice a T.length cap] 27)).alloc (.cells #[.slice none 0 0] 27)):=((Below.refl _ _).alloc (Nat.le_refl _) _).alloc (by simp) _
 have kJ:=(Holds.new w #[.slice a T.length cap] 27).alloc (.cells #[.slice none 0 0] 27)
 have GH:=Holds.newAt (w:=w.alloc (.cells #[.slice a T.length cap] 27)) (B:=w.heap.size+1) (by simp) #[.slice none 0 0] 27
 rcases Qsb T s with⟨Hm,Gk⟩|⟨gy,k,hk,Gs,kR⟩
 ·have hE:=hid (show Q3c T s name=([],(QBa T s).2)from by unfold Q3c;rw[if_pos Hm])
  have eX:((QBa T s).2 != 0)=true:=by simpa using Hm
  rw[Gk]at G0
  have Kx:=hid G0
  clear G0 Hm Gk
  generalize (QBa T s).2=c at *
  go_enter Tryz.func62,Tryz.ntmps62
  go_wp2_with fail
  refine(Kx.out _ (by exact HT.out.new He)).mono ?_
  rintro e w1 ⟨rfl,Hb⟩
  have Hs:=GH.keeps (Qaa.of_fresh Hb (fun _=>False)) (fun e=>e)
  have Hc:=He.trans (Hb.mono (by simp;omega))
  have z0:=Hs.cell 0
  have zf:=Hs.free 0
  have zl:=Hs.lt
  go_wp2_with fail
  have q0:(w1.setCell ⟨w.heap.size+1,0,none⟩ (.slice none 0 0)).cell? ⟨w.heap.size+1,0,none⟩=some (.slice none 0 0):=(Hs.set 0 _).cell 0
  exact bodyPost_ret (v:=.tuple #[.agg #[.slice none 0 0],.int .i64 c]) (by simp[results,Tryz.results62,go_sem,q0]) rfl ⟨_,by rw[hE.out],by rw[hE.out];exact Qda.nil _ _,Hc.setCell (p:=⟨w.heap.size+1,0,none⟩) (by simp) _⟩
 ·rw[Gs]at G0
  have Kx:=hid G0
  have hE:=hid (show Q3c T s name=if Q0a name.data.toList=false then([],1)else if T.any (QNa (k:Int) name)=true then([],5)else if 8≤Q6b T T.length (k:Int)then([],2)else if 120≤T.length then([],3)else(Qoa (T++[⟨(k:Int),name,[]⟩]),0)from by
   unfold Q3c;rw[Gs,if_neg (by simp)])
  have jl:=Qeb (QPa gy)
  have Hv:=Q0b gy
  have fL:=hid (Qrc gy)
  obtain⟨GO,Ge⟩:=jl
  have ag:=hid (fun wx hx=>Q1i R (.slice a T.length cap) T k wx hx Hv (by omega) (by omega) (by omega))
  have jb:=hid (Qua Hv)
  have G8:=fun wx=>Qhg name wx (by unfold maxLen;omega)
  clear G0 Gs gy Hv
  cases k9:Q0a name.data.toList with
  | false=>
   have hF:=hid (show Q3c T s name=([],1)from by rw[hE.out,if_pos k9])
   rw[k9]at G8
   have Mh:=hid G8
   clear G8 k9 hE
   go_enter Tryz.func62,Tryz.ntmps62
   go_wp2_with fail
   refine(Kx.out _ (by exact HT.out.new He)).mono ?_
   rintro e w1 ⟨rfl,Hb⟩
   have Hs:=GH.keeps (Qaa.of_fresh Hb (fun _=>False)) (fun e=>e)
   have Hc:=He.trans (Hb.mono (by simp;omega))
   go_wp2_with fail
   refine(Mh.out _).mono ?_
   rintro e w2 ⟨rfl,rfl⟩
   have z0:=Hs.cell 0
   have zf:=Hs.free 0
   have zl:=Hs.lt
   go_wp2_with fail
   have q0:(w1.setCell ⟨w.heap.size+1,0,none⟩ (.slice none 0 0)).cell? ⟨w.heap.size+1,0,none⟩=some (.slice none 0 0):=(Hs.set 0 _).cell 0
   exact bodyPost_ret (v:=.tuple #[.agg #[.slice none 0 0],.int .i64 1]) (by simp[results,Tryz.results62,go_sem,q0]) rfl ⟨_,by rw[hF.out],by rw[hF.out];exact Qda.nil _ _,Hc.setCell (p:=⟨w.heap.size+1,0,none⟩) (by simp) _⟩
  | true=>
   rw[k9]at G8
   have Mh:=hid G8
   have Kz:=hid (show Q3c T s name=if T.any (QNa (k:Int) name)=true then([],5)else if 8≤Q6b T T.length (k:Int)then([],2)else if 120≤T.length then([],3)else(Qoa (T++[⟨(k:Int),name,[]⟩]),0)from by rw[hE.out,k9,if_neg (by simp)])
   clear G8 k9 hE
   go_enter Tryz.func62,Tryz.ntmps62
   go_wp2_with fail
   refine(Kx.out _ (by exact HT.out.new He)).mono ?_
   rintro e w1 ⟨rfl,Hb⟩
   have Hs:=GH.keeps (Qaa.of_fresh Hb (fun _=>False)) (fun e=>e)
   have H5:=kJ.keeps (Qaa.of_fresh Hb (fun _=>False)) (fun e=>e)
   have Hc:=He.trans (Hb.mono (by simp;omega))
   have bx:=H5.cell 0
   have bl:=H5.lt
   clear He kJ GH Hb
   go_wp2_with fail
   refine(Mh.out _).mono ?_
   rintro e w2 ⟨rfl,rfl⟩
   go_wp2_with fail
   go_loopg [30] (T.length) (fun f x wr=>∃i:Nat,x = .int .i64 i∧i≤T.length∧T.length≤i+f∧Hid (T.any (QNa (k:Int) name)=(T.drop i).any (QNa (k:Int) name))∧Holds wr w.heap.size #[.slice a T.length cap] 27∧Holds wr (w.heap.size+1) #[.slice none 0 0] 27∧Below w.heap.size w wr)
   case atStart=>exact⟨0,rfl,by omega,by omega,by simp[Hid],H5,Hs,Hc⟩
   case round=>
    clear bx bl
    obtain⟨i,rfl,hi,hf,hA,hX,hZ,hb⟩:=hrel
    have H3:=hb.size
    have bx:=hX.cell 0
    have bl:=hX.lt
    by_cases Hh:i<T.length
    ·obtain⟨g,o,pa,pc,rfl,hg,c0,c1,c2,hp,p1,p2,b0,b1,b2⟩:=(HT.out.new hb).at i Hh
     have Hk:=hid (show(T.drop i).any (QNa (k:Int) name)=(QNa (k:Int) name T[i] || (T.drop (i+1)).any (QNa (k:Int) name))from by rw[List.drop_eq_getElem_cons Hh];rfl)
     clear hp
     by_cases GP:T[i].parent=(k:Int)
     ·have nP:(T[i].parent == (k:Int))=true:=by simp[GP]
      cases Hm:(T[i].name.toList == name.toList)with
      | true=>
       have hF:=hid (show Q3c T s name=([],5)from by
        rw[Kz.out,if_pos]
        rw[hA.out,Hk.out]
        have:QNa (k:Int) name T[i]=true:=by unfold QNa;rw[decide_eq_true GP,Bool.true_and];exact Hm
        rw[this];rfl)
       have Mi:=hb.alloc H3 (.cells #[.int .i64 T[i].parent,.string T[i].name,.slice pa T[i].props.length pc] 46)
       have l8:=hZ.alloc (.cells #[.int .i64 T[i].parent,.string T[i].name,.slice pa T[i].props.length pc] 46)
       clear GP
       have z0:=l8.cell 0
       have zf:=l8.free 0
       have zl:=l8.lt
       go_wp2_with fail
       have q0:((wr.alloc (.cells #[.int .i64 T[i].parent,.string T[i].name,.slice pa T[i].props.length pc] 46)).setCell ⟨w.heap.size+1,0,none⟩ (.slice none 0 0)).cell? ⟨w.heap.size+1,0,none⟩=some (.slice none 0 0):=(l8.set 0 _).cell 0
       exact bodyPost_ret (v:=.tuple #[.agg #[.slice none 0 0],.int .i64 5]) (by simp[results,Tryz.results62,go_sem,q0]) rfl ⟨_,by rw[hF.out],by rw[hF.out];exact Qda.nil _ _,Mi.setCell (p:=⟨w.heap.size+1,0,none⟩) (by simp) _⟩
      | false=>
       have gF:=hid (show T.any (QNa (k:Int) name)=(T.drop (i+1)).any (QNa (k:Int) name)from by
        rw[hA.out,Hk.out]
        have:QNa (k:Int) name T[i]=false:=by unfold QNa;rw[show eqS T[i].name name=false from Hm,Bool.and_false]
        rw[this,Bool.false_or])
       clear GP
       go_wp2_with fail
       go_roundg (gk-1)
       case measure=>omega
       case rel=>exact⟨i+1,by go_num,by omega,by omega,gF,hX.alloc _,hZ.alloc _,hb.alloc H3 _⟩
     ·have nP:(T[i].parent == (k:Int))=false:=by simpa using GP
      have gF:=hid (show T.any (QNa (k:Int) name)=(T.drop (i+1)).any (QNa (k:Int) name)from by
       rw[hA.out,Hk.out]
       have:QNa (k:Int) name T[i]=false:=by unfold QNa;rw[decide_eq_false GP,Bool.false_and]
       rw[this,Bool.false_or])
      clear GP
      go_wp2_with fail
      go_roundg (gk-1)
      case measure=>omega
      case rel=>exact⟨i+1,by go_num,by omega,by omega,gF,hX.alloc _,hZ.alloc _,hb.alloc H3 _⟩
    ·have fW:=hid (show Q3c T s name=if 8≤Q6b T T.length (k:Int)then([],2)else if 120≤T.length then([],3)else(Qoa (T++[⟨(k:Int),name,[]⟩]),0)from by
      rw[Kz.out,if_neg]
      rw[hA.out,List.drop_eq_nil_of_le (by omega)];simp)
     clear hA H5 Hs Hc
     by_cases h8:8≤Q6b T T.length (k:Int)
     ·have hF:=hid (show Q3c T s name=([],2)from by rw[fW.out,if_pos h8])
      clear Kz fW
      go_wp2_with fail
      refine(ag.out _ (by exact HT.out.new hb)).mono ?_
      rintro e w3 ⟨rfl,Hi⟩
      have Hz:=hZ.keeps (Qaa.of_fresh Hi (fun _=>False)) (fun e=>e)
      have Hu:=hb.trans (Hi.mono H3)
      have z0:=Hz.cell 0
      have zf:=Hz.free 0
      have zl:=Hz.lt
      go_wp2_with fail
      have q0:(w3.setCell ⟨w.heap.size+1,0,none⟩ (.slice none 0 0)).cell? ⟨w.heap.size+1,0,none⟩=some (.slice none 0 0):=(Hz.set 0 _).cell 0
      exact bodyPost_ret (v:=.tuple #[.agg #[.slice none 0 0],.int .i64 2]) (by simp[results,Tryz.results62,go_sem,q0]) rfl ⟨_,by rw[hF.out],by rw[hF.out];exact Qda.nil _ _,Hu.setCell (p:=⟨w.heap.size+1,0,none⟩) (by simp) _⟩
     ·by_cases h120:120≤T.length
      ·have hF:=hid (show Q3c T s name=([],3)from by rw[fW.out,if_neg h8,if_pos h120])
       have h8':Q6b T T.length (k:Int)<8:=by omega
       clear Kz fW h8
       go_wp2_with fail
       refine(ag.out _ (by exact HT.out.new hb)).mono ?_
       rintro e w3 ⟨rfl,Hi⟩
       have Hz:=hZ.keeps (Qaa.of_fresh Hi (fun _=>False)) (fun e=>e)
       have ki:=hX.keeps (Qaa.of_fresh Hi (fun _=>False)) (fun e=>e)
       have Hu:=hb.trans (Hi.mono H3)
       clear bx bl
       have bx:=ki.cell 0
       have bl:=ki.lt
       have z0:=Hz.cell 0
       have zf:=Hz.free 0
       have zl:=Hz.lt
       go_wp2_with fail
       have q0:(w3.setCell ⟨w.heap.size+1,0,none⟩ (.slice none 0 0)).cell? ⟨w.heap.size+1,0,none⟩=some (.slice none 0 0):=(Hz.set 0 _).cell 0
       exact bodyPost_ret (v:=.tuple #[.agg #[.slice none 0 0],.int .i64 3]) (by simp[results,Tryz.results62,go_sem,q0]) rfl ⟨_,by rw[hF.out],by rw[hF.out];exact Qda.nil _ _,Hu.setCell (p:=⟨w.heap.size+1,0,none⟩) (by simp) _⟩
      ·have hF:=hid (show Q3c T s name=(Qoa (T++[⟨(k:Int),name,[]⟩]),0)from by rw[fW.out,if_neg h8,if_neg h120])
       have h8':Q6b T T.length (k:Int)<8:=by omega
       have Jm:T.length<120:=by omega
       have Kn:=hid (fun wx hx=>Qci R (.slice a T.length cap) T wx hx Ge fL.out)
       clear Kz fW h8 h120
       go_wp2_with fail
       refine(ag.out _ (by exact HT.out.new hb)).mono ?_
       rintro e w3 ⟨rfl,Hi⟩
       have Hz:=hZ.keeps (Qaa.of_fresh Hi (fun _=>False)) (fun e=>e)
       have ki:=hX.keeps (Qaa.of_fresh Hi (fun _=>False)) (fun e=>e)
       have Hu:=hb.trans (Hi.mono H3)
       clear bx bl Hi hX hZ hb H3
       have bx:=ki.cell 0
       have bl:=ki.lt
       go_wp2_with fail
       refine(Kn.out _ (by exact HT.out.new Hu)).mono ?_
       rintro e w4 ⟨cv,rfl,dW,H9⟩
       have gY:=Hz.keeps (Qaa.of_fresh H9 (fun _=>False)) (fun e=>e)
       have M1:=Hu.size
       have gG:=Hu.trans (H9.mono M1)
       have iT:=gG.size
       have fy:=gY.lt
       have K1:=dW.base M1
       clear H9 Hu ki Hz bx bl dW
       obtain⟨va,vc,jI⟩:∃va vc,cv = .slice va T.length vc:=by obtain⟨_,_,g2,_⟩:=K1;exact Qea g2
       subst jI
       have qV:=Holds.new w4 #[.slice va T.length vc] 27
       have K4:=K1.new ((Below.refl _ _).alloc (Nat.le_refl _) (.cells #[.slice va T.length vc] 27))
       obtain⟨pvs,g1,g2,g3,g4⟩:=K4
       have gK:=gY.alloc (.cells #[.slice va T.length vc] 27)
       have gZ:=gG.alloc iT (.cells #[.slice va T.length vc] 27)
       have MH:=gZ.size
       have G1:=hid g1;have G2:=hid g2;have G3:=hid g3;have G4:=hid g4
       have e1:T.length+1≤maxLen:=by unfold maxLen;omega
       have e2:(T.length+1)*48≤140737488355328:=by omega
       clear g1 g2 g3 g4 K1 gG gY
       obtain⟨i0,ab,H4,Hp,gj⟩:=info_parts Qqk
       go_wp2_with (at_builtin;refine wpList_append_own _ rfl _ _ 25 rfl w.heap.size 46 i0 (.agg #[.int .i64 0,.string ⟨#[]⟩,.slice none 0 0]) 3 48 Tryz.underlying25 ab H4 Hp gj rfl (by decide) _ T.length (QAa T pvs) rfl (by exact World.ownsRow.alloc G2.out _) ⟨w4.heap.size+1,0,none⟩ 1 1 [.int .i64 k,.string name,.slice none 0 0] rfl rfl ?d1 ?d2 ?d3 ?d4 ?d5 ?_)
       case d1=>exact Q2a _ _ _ _ (by simp) _ rfl
       case d2=>
        intro u hu
        simp at hu
        rcases hu with rfl|rfl|rfl <;> rfl
       case d3=>exact e1
       case d4=>exact e2
       case d5=>simp;omega
       intro v' w6 Hg Hd _
       have mX:Below (w4.alloc (.cells #[.slice va T.length vc] 27)).heap.size (w4.alloc (.cells #[.slice va T.length vc] 27)) ((w4.alloc (.cells #[.slice va T.length vc] 27)).alloc (.cells #[.int .i64 k,.string name,.slice none 0 0] 46)):=(Below.refl _ _).alloc (Nat.le_refl _) _
       have qW:=(qV.alloc (.cells #[.int .i64 k,.string name,.slice none 0 0] 46)).grown Hd (Qva G2.out qV (by decide))
       have cZ:=(gK.alloc (.cells #[.int .i64 k,.string name,.slice none 0 0] 46)).grown Hd (Qva G2.out gK (by decide))
       have kK:=(gZ.alloc MH (.cells #[.int .i64 k,.string name,.slice none 0 0] 46)).grown Hd (by simp;omega) (fun g hg=>(G2.out.lt g hg).1)
       have J3:Qda w6 w.heap.size v' (T++[⟨(k:Int),name,[]⟩]):=Qda.more (n:=(⟨(k:Int),name,[]⟩:Qba)) G1.out (World.ownsRow.alloc G2.out _) (fun q hq kT=>(G3.out q hq kT).new mX) G4.out (Qma.nil _ _) ⟨KQ,by show _≤(k:Int);omega,by show(k:Int)≤_;omega⟩ Hg Hd
       obtain⟨va2,vc2,rfl⟩:=Qea Hg
       have tQ:=Q2m (n:=(⟨(k:Int),name,[]⟩:Qba)) jb.out rfl hk
       have hlen:(T++[(⟨(k:Int),name,[]⟩:Qba)]).length=T.length+1:=by simp
       have rr:=J3.set qW (by decide) (by decide) 0 (.slice va2 (T.length+1) vc2)
       have eD:Holds (w6.setCell ⟨w4.heap.size,0,none⟩ (.slice va2 (T.length+1) vc2)) (w.heap.size+1) #[.slice none 0 0] 27:=cZ.other _ _ (by show w.heap.size+1≠w4.heap.size;omega)
       have GU:=kK.setCell (p:=⟨w4.heap.size,0,none⟩) iT (.slice va2 (T.length+1) vc2)
       have lG:=qW.set 0 (.slice va2 (T.length+1) vc2)
       have c0:=qW.cell 0
       have cf:=qW.free 0
       have cl:=qW.lt
       have zx:=hid (fun wx hx kj=>Qgm w.heap.size (.slice va2 (T.length+1) vc2) (T++[(⟨(k:Int),name,[]⟩:Qba)]) wx hx tQ (by omega) (by omega) kj)
       clear tQ J3 cZ kK gK gZ MH mX Hd Hg qV
       have nV:=GU.size
       go_wp2_with fail
       refine(zx.out _ (by exact rr) (by exact nV)).mono ?_
       rintro e w7 ⟨sv,rfl,uM,Gr⟩
       have K5:=eD.keeps (Qaa.of_fresh Gr (fun _=>False)) (fun e=>e)
       have kA:=GU.trans (Gr.mono nV)
       have z0:=K5.cell 0
       have zf:=K5.free 0
       have zl:=K5.lt
       have bA:=uM.set K5 (by decide) (by decide) 0 sv
       obtain⟨sa,sn,sc,Dp⟩:∃sa sn sc,sv = .slice sa sn sc:=by obtain⟨_,_,g2,_⟩:=uM;obtain⟨x,y,e⟩:=Qea g2;exact⟨_,_,_,e⟩
       subst Dp
       clear hlen
       go_wp2_with fail
       have q0:(w7.setCell ⟨w.heap.size+1,0,none⟩ (.slice sa sn sc)).cell? ⟨w.heap.size+1,0,none⟩=some (.slice sa sn sc):=(K5.set 0 _).cell 0
       exact bodyPost_ret (v:=.tuple #[.agg #[.slice sa sn sc],.int .i64 0]) (by simp[results,Tryz.results62,go_sem,q0]) rfl ⟨_,by rw[hF.out],by rw[hF.out];exact bA,kA.setCell (p:=⟨w.heap.size+1,0,none⟩) (by simp) _⟩
def QNo(ps:List Qla)(q:Nat)(a:Option Addr)(w3:World)(y:Value)(wx:World):Prop:=
 ∃(ra:Option Addr) (rc:Nat) (n:Nat),y = .slice ra (ps.length-q) rc∧(q<ps.length→∃g o,a=some ⟨g,o,none⟩∧ra=some ⟨g,o+q*2,none⟩)∧w3.drewN n=wx
theorem Qtf:∀(ps:List Qla) (k:Nat),Qga (ps.take k)=(Qga ps).take (k*2)
 | [],k=>by simp[Qga]
 | p::ps,0=>by simp[Qga]
 | p::ps,k+1=>by
  rw[show(k+1)*2=k*2+1+1 from by omega]
  simp only[List.take_succ_cons,Qga]
  rw[Qtf ps k]
theorem Qrf:∀(ps:List Qla) (k:Nat),Qga (ps.drop k)=(Qga ps).drop (k*2)
 | [],k=>by simp[Qga]
 | p::ps,0=>by simp[Qga]
 | p::ps,k+1=>by
  rw[show(k+1)*2=k*2+1+1 from by omega]
  simp only[List.drop_succ_cons,Qga]
  rw[Qrf ps k]
theorem Q5j{w:World}{g o:Nat}{ps:List Qla}(h:∀j u,(Qga ps)[j]? = some u→w.cell? ((⟨g,o,none⟩:Addr).add j)=some u)(k:Nat):∀j u,(Qga (ps.take k))[j]? = some u→w.cell? ((⟨g,o,none⟩:Addr).add j)=some u:=by
 intro j u hu
 rw[Qtf,List.getElem?_take]at hu
 by_cases e:j<k*2
 ·rw[if_pos e]at hu;exact h j u hu
 ·rw[if_neg e]at hu;cases hu
theorem Q6j{w:World}{g o:Nat}{ps:List Qla}(h:∀j u,(Qga ps)[j]? = some u→w.cell? ((⟨g,o,none⟩:Addr).add j)=some u)(k:Nat):∀j u,(Qga (ps.drop k))[j]? = some u→w.cell? ((⟨g,o+k*2,none⟩:Addr).add j)=some u:=by
 intro j u hu
 rw[Qrf,List.getElem?_drop]at hu
 have:=h _ u hu
 rw[Addr.add_lit]at this ⊢
 rw[show o+k*2+j=o+(k*2+j)from by omega];exact this
set_option maxRecDepth 100000 in
theorem QLr(R:Nat→Prop)(v:Value)(ps:List Qla)(p:Qla)(w:World)(hP:QGa R w v ps)(hl:ps.length≤1000)(JD:QFe p) :
 Calls Tryz.prog 66 #[v,.agg #[.string p.name,.string p.value]] w fun e w'=>∃rv,e = .returned rv∧Qma w' w.heap.size rv (QSc ps p)∧Below w.heap.size w w':=by
 obtain⟨a,cap,rfl,gM,gB⟩:=hP.shape
 have HP:=hid hP;clear hP
 have qz:=hid JD;clear JD
 have ke:=Holds.new w #[.string p.name,.string p.value] 49
 have He:Below w.heap.size w (w.alloc (.cells #[.string p.name,.string p.value] 49)):=(Below.refl _ _).alloc (Nat.le_refl _) _
 have n0:=ke.cell 0
 have n1:=ke.cell 1
 have nl:=ke.lt
 go_enter Tryz.func66,Tryz.ntmps66
 go_upto_block 0 with fail
 go_cut [5] (fun y wx=>∃n,y = .int .i64 (Qfb ps p.name)∧(w.alloc (.cells #[.string p.name,.string p.value] 49)).drewN n=wx)
 case first=>
  go_wp2_with fail
  go_loopg [5] (ps.length) (fun f y wx=>∃(k n:Nat),y = .int .i64 k∧k≤ps.length∧ps.length≤k+f∧Hid (Qfb ps p.name=k+((ps.drop k).takeWhile (fun q=>ltS q.name p.name)).length)∧(w.alloc (.cells #[.string p.name,.string p.value] 49)).drewN n=wx)
  case atStart=>exact⟨0,0,rfl,by omega,by omega,by simp[Hid,Qfb],rfl⟩
  case round=>
   obtain⟨k,n,rfl,hk,hf,hS,rfl⟩:=hrel
   by_cases Hh:k<ps.length
   ·obtain⟨g,o,rfl,hg,c0,c1,b0,b1⟩:=(HP.out.new He).at k Hh
    have ve:(k:Int)<(ps.length:Int):=by omega
    have kE:=hid (Qur ps p.name k Hh)
    cases Hm:Op.bytesLess ps[k].name.toList p.name.toList with
    | true=>
     have gh:=hid (show Qfb ps p.name=(k+1:Nat)+((ps.drop (k+1)).takeWhile (fun q=>ltS q.name p.name)).length from by
      rw[hS.out,kE.out,if_pos (show ltS ps[k].name p.name=true from Hm)];simp;omega)
     go_wp2_with fail
     go_quiet (fail)
     go_wp2_with fail
     go_roundg (gk-1)
     case measure=>omega
     case rel=>exact⟨k+1,_,by go_num,by omega,by omega,gh,rfl⟩
    | false=>
     have gh:=hid (show Qfb ps p.name=k from by rw[hS.out,kE.out,if_neg (by rw[show ltS ps[k].name p.name=false from Hm];simp)];rfl)
     go_wp2_with fail
     go_quiet (fail)
     go_wp2_with fail
     go_meet
     exact⟨_,by rw[gh.out],(Qed _ _ _).symm⟩
   ·have hd:decide ((k:Int)<(ps.length:Int))=false:=by simp;omega
    have gh:=hid (show Qfb ps p.name=k from by rw[hS.out,List.drop_eq_nil_of_le (by omega)];rfl)
    go_wp2_with fail
    go_quiet (fail)
    go_wp2_with fail
    go_meet
    exact⟨_,by rw[gh.out],(Qed _ _ _).symm⟩
 case rest=>
  obtain⟨n,rfl,hw⟩:=hcut
  obtain⟨w3,rfl⟩:∃x:World,x=wc:=⟨_,rfl⟩
  have JU:Holds w3 w.heap.size #[.string p.name,.string p.value] 49:=by rw[←hw];exact ke.drewN n
  have Hi:Below w.heap.size w w3:=by rw[←hw];exact QIa He n
  clear hw ke He n0 n1 nl
  have n0:=JU.cell 0
  have n1:=JU.cell 1
  have nl:=JU.lt
  have sZ:=Qzk ps p.name
  have KZ:=hid (HP.out.new Hi)
  have cq:=Qhm ps p.name
  have Kt:=hid (show QSc ps p=ps.take (Qfb ps p.name)++p::ps.drop (Qff ps p.name)from rfl)
  have BI:=hid (show Qff ps p.name=Qfb ps p.name+if QKc ps p.name=true then 1 else 0 from rfl)
  have Gp:=hid (fun hk=>Qnk (l:=ps) (x:=p.name) hk)
  have BG:=hid (fun hk=>Q2f (l:=ps) (x:=p.name) hk)
  have mX:=hid (show ∀(q:Nat) (hq:q<ps.length),∃g o,a=some ⟨g,o,none⟩from fun q hq=>by
   obtain⟨g,o,e,_⟩:=KZ.out.at q hq
   exact⟨g,o,e⟩)
  generalize Qff ps p.name=q at *
  generalize Qfb ps p.name=k at *
  obtain⟨hre1,hre2,hre3⟩:=cq
  have Mm:k≤cap:=by omega
  go_upto_region 4 with fail
  go_cut [6] (fun y wx=>QNo ps k a w3 y wx)
  case first=>
   by_cases gy:cap=k
   ·subst gy
    go_wp2_with fail
    go_meet
    exact⟨a,0,0,by rw[show ps.length-cap=0 from by omega],fun h=>absurd h (by omega),rfl⟩
   ·have xV:k<cap:=by omega
    by_cases kH:k<ps.length
    ·obtain⟨g,o,rfl⟩:=mX.out k kH
     go_wp2_with fail
     go_meet
     exact⟨_,_,0,rfl,fun _=>⟨g,o,rfl,rfl⟩,rfl⟩
    ·have aH:ps.length=k:=by omega
     cases a with
     | none=>
      go_wp2_with fail
      go_meet
      exact⟨_,cap-k,0,by rw[show ps.length-k=0 from by omega],fun h=>absurd h (by omega),rfl⟩
     | some ad=>
      go_wp2_with fail
      go_meet
      exact⟨_,cap-k,0,by rw[show ps.length-k=0 from by omega],fun h=>absurd h (by omega),rfl⟩
  case rest=>
   obtain⟨ra0,rc0,m0,rfl,nR,rfl⟩:=hcut
   go_upto_region 5 with fail
   go_cut [40] (fun y wx=>∃n,y = .bool (QKc ps p.name)∧w3.drewN n=wx)
   case first=>
    by_cases kH:k<ps.length
    ·obtain⟨g,o,rfl,hg,c0,c1,b0,b1⟩:=KZ.out.at k kH
     have ve:(k:Int)<(ps.length:Int):=by omega
     have hh:=Gp.out kH
     cases Hm:(ps[k].name.toList == p.name.toList)with
     | true=>
      have hH:=hid (show QKc ps p.name=true from by rw[hh];exact Hm)
      clear hh
      go_wp2_with fail
      go_quiet (fail)
      go_wp2_with fail
      go_meet
      exact⟨_,by rw[hH.out],(Qed _ _ _).symm⟩
     | false=>
      have hH:=hid (show QKc ps p.name=false from by rw[hh];exact Hm)
      clear hh
      go_wp2_with fail
      go_quiet (fail)
      go_wp2_with fail
      go_meet
      exact⟨_,by rw[hH.out],(Qed _ _ _).symm⟩
    ·have hd:decide ((k:Int)<(ps.length:Int))=false:=by simp;omega
     have hH:=hid (show QKc ps p.name=false from BG.out (by omega))
     go_wp2_with fail
     go_quiet (fail)
     go_wp2_with fail
     go_meet
     exact⟨_,by rw[hH.out],(Qed _ _ _).symm⟩
   case rest=>
    obtain⟨m1,rfl,rfl⟩:=hcut
    have Jc:=BI.out
    go_upto_if 40 with fail
    go_cut [6] (fun y wx=>QNo ps q a w3 y wx)
    case first=>
     cases hh:QKc ps p.name with
     | false=>
      rw[hh]at Jc
      have zm:q=k:=by simpa using Jc
      subst zm
      clear Jc
      go_wp2_with fail
      go_meet
      exact⟨ra0,rc0,_,rfl,nR,rfl⟩
     | true=>
      rw[hh]at Jc
      have zm:q=k+1:=by simpa using Jc
      subst zm
      clear Jc nR
      obtain⟨g,o,rfl⟩:=mX.out k (by omega)
      by_cases gy:cap=k+1
      ·subst gy
       go_wp2_with fail
       go_meet
       exact⟨_,0,_,by rw[show ps.length-(k+1)=0 from by omega],fun h=>absurd h (by omega),rfl⟩
      ·have xV:k+1<cap:=by omega
       go_wp2_with fail
       go_meet
       exact⟨_,_,_,rfl,fun _=>⟨g,o,rfl,rfl⟩,rfl⟩
    case rest=>
     obtain⟨ra,rc,m2,rfl,zq,hw⟩:=hcut
     have aw:Holds wc w.heap.size #[.string p.name,.string p.value] 49:=by rw[←hw];exact JU.drewN m2
     have Hu:Below w.heap.size w wc:=by rw[←hw];exact QIa Hi m2
     have jW:=hid (HP.out.new Hu)
     clear hw JU Hi n0 n1 nl KZ BI Gp BG nR Jc
     obtain⟨w4,rfl⟩:∃x:World,x=wc:=⟨_,rfl⟩
     have M1:=Hu.size
     obtain⟨i0,hi,H4,Hp,gj⟩:=info_parts Q4f
     go_upto_region 7 with fail
     go_cut [7] (fun y wx=>∃ov,y=ov∧Qma wx w.heap.size ov (ps.take k)∧Below w4.heap.size w4 wx)
     case first=>
      by_cases GF:k=0
      ·subst GF
       cases a with
       | none=>
        go_wp2_with (at_builtin;refine QGb rfl _ _ 44 rfl w.heap.size 49 i0 2 Tryz.underlying44 hi (.slice (some ⟨w4.heap.size,0,none⟩) 0 0) 0 [] rfl (by exact Q5b rfl M1) none cap rfl ?_)
        go_meet
        exact⟨_,rfl,⟨Q5b rfl M1,fun _ h=>by simp at h⟩,(Below.refl _ _).alloc (Nat.le_refl _) _⟩
       | some ad=>
        go_wp2_with (at_builtin;refine QGb rfl _ _ 44 rfl w.heap.size 49 i0 2 Tryz.underlying44 hi (.slice (some ⟨w4.heap.size,0,none⟩) 0 0) 0 [] rfl (by exact Q5b rfl M1) (some ad) cap rfl ?_)
        go_meet
        exact⟨_,rfl,⟨Q5b rfl M1,fun _ h=>by simp at h⟩,(Below.refl _ _).alloc (Nat.le_refl _) _⟩
      ·obtain⟨g,o,nc,jj,_,mG,mF,_⟩:=jW.out.row (by omega)
       subst nc
       have ll:=hid mF;have uy:=hid mG
       clear mF mG
       have ac:0<k:=by omega
       go_wp2_with (at_builtin;refine wpList_append_own _ rfl _ _ 44 rfl w.heap.size 49 i0 (.agg #[.string ⟨#[]⟩,.string ⟨#[]⟩]) 2 32 Tryz.underlying44 hi H4 Hp gj rfl (by decide) (.slice (some ⟨w4.heap.size,0,none⟩) 0 0) 0 [] rfl (by exact Q5b rfl M1) ⟨g,o,none⟩ k cap (Qga (ps.take k)) rfl ?c0 ?c1 ?c2 ?c3 ?c4 ?c5 ?_)
       case c0=>rw[Q9a];simp;omega
       case c1=>exact QDf (Q5j ll.out k) jj ((Below.refl _ _).alloc (Nat.le_refl _) _)
       case c2=>exact QSb _
       case c3=>unfold maxLen;omega
       case c4=>omega
       case c5=>simp;omega
       intro v' w5 Hg Hd _
       have H9:Below w4.heap.size w4 w5:=((Below.refl w4.heap.size w4).alloc (Nat.le_refl _) (.cells #[] 49)).grown Hd (by simp) (fun q hq=>by have:w4.heap.size=q:=Option.some.inj hq;omega)
       have mR:∀x∈ps.take k,QFe x:=fun x hx=>uy.out x (List.mem_of_mem_take hx)
       have wg:=hid mR
       clear mR
       have hlen:(ps.take k).length=k:=by simp;omega
       have HL:=hid hlen
       clear hlen Hd
       obtain⟨va,vc,rfl⟩:=Qea Hg
       go_wp2_with fail
       go_meet
       exact⟨_,rfl,⟨by rw[HL.out];exact Hg,wg.out⟩,H9⟩
     case rest=>
      obtain⟨ov,rfl,hO,H9⟩:=hcut
      have uD:=aw.keeps (Qaa.of_fresh H9 (fun _=>False)) (fun e=>e)
      have rq:=hid (jW.out.new H9)
      have gG:=Hu.trans (H9.mono M1)
      have iT:=gG.size
      have n0:=uD.cell 0
      have n1:=uD.cell 1
      have nl:=uD.lt
      have hlen:(ps.take k).length=k:=by simp;omega
      obtain⟨gW,GG⟩:=hO
      rw[hlen]at gW
      have jy:=hid GG
      clear aw Hu jW GG hlen H9
      obtain⟨oa,oc,rfl⟩:=Qea gW
      have mr:=hid gW
      clear gW
      go_wp2_with (at_builtin;refine wpList_append_own _ rfl (.tmp 50) (.tmp 52) 44 rfl w.heap.size 49 i0 (.agg #[.string ⟨#[]⟩,.string ⟨#[]⟩]) 2 32 Tryz.underlying44 hi H4 Hp gj rfl (by decide) _ k (Qga (ps.take k)) rfl (by exact World.ownsRow.alloc mr.out _) ⟨wc.heap.size,0,none⟩ 1 1 [.string p.name,.string p.value] rfl rfl ?d1 ?d2 ?d3 ?d4 ?d5 ?_)
      case d1=>exact Q2a _ _ _ _ rfl _ rfl
      case d2=>intro x hx;simp at hx;rcases hx with rfl|rfl <;> rfl
      case d3=>unfold maxLen;omega
      case d4=>omega
      case d5=>simp;omega
      intro v6 w6 Ks jZ _
      have gZ:=(gG.alloc iT (.cells #[.string p.name,.string p.value] 49)).grown jZ (by simp;omega) (fun g hg=>(mr.out.lt g hg).1)
      have xM:Qaa (fun i=>some i=(Value.slice oa k oc).ownBlock) wc w6:=((Qaa.refl _ wc).alloc _).grown jZ (fun i hi=>.inr hi.symm)
      have MH:=gZ.size
      have mG:∀x∈QSc ps p,QFe x:=by
       intro x hx
       rw[Kt.out]at hx
       rcases List.mem_append.1 hx with hx|hx
       ·exact jy.out x hx
       ·rcases List.mem_cons.1 hx with rfl|hx
        ·exact qz.out
        ·have hm:=List.mem_of_mem_drop hx
         obtain⟨j,hj,rfl⟩:=List.mem_iff_getElem.1 hm
         obtain⟨_,_,_,_,_,_,b0,b1⟩:=rq.out.at j hj
         exact⟨b0,b1⟩
      have uy:=hid mG
      have iK:Hid ((QSc ps p).length=k+1+(ps.length-q)):=by
       show _=_
       rw[Kt.out];simp;omega
      have bZ:Hid (Qga (QSc ps p)=Qga (ps.take k)++[.string p.name,.string p.value]++Qga (ps.drop q)):=by
       show _=_
       rw[Kt.out,Qgg];simp[Qga]
      have H6:=hid Ks
      obtain⟨va,vc,rfl⟩:=Qea Ks
      clear Ks mG jZ n0 n1 nl uD gG
      by_cases hq:q<ps.length
      ·obtain⟨g,o,nc,rfl⟩:=zq hq
       subst nc
       obtain⟨g',o',e',jj,_,_,mF,_⟩:=rq.out.row (by omega)
       cases e'
       have hgw:g<w.heap.size:=by
        obtain⟨_,_,e2,h2,_⟩:=HP.out.row (by omega)
        cases e2;exact h2
       have ll:=hid (Q6j mF q)
       have H7:∀j u,(Qga (ps.drop q))[j]? = some u→w6.cell? ((⟨g,o+q*2,none⟩:Addr).add j)=some u:=by
        intro j u hu
        have h1:=ll.out j u hu
        rw[Addr.add_lit]at h1 ⊢
        refine(xM.cell (p:=⟨g,o+q*2+j,none⟩) jj ?_).trans h1
        intro e
        have:=(mr.out.lt g e.symm).1
        omega
       have BV:=hid H7
       clear mF H7 zq
       go_wp2_with (at_builtin;refine wpList_append_own _ rfl (.tmp 53) (.tmp 54) 44 rfl w.heap.size 49 i0 (.agg #[.string ⟨#[]⟩,.string ⟨#[]⟩]) 2 32 Tryz.underlying44 hi H4 Hp gj rfl (by decide) _ (k+1) (Qga (ps.take k)++[.string p.name,.string p.value]) rfl (by exact H6.out) ⟨g,o+q*2,none⟩ (ps.length-q) rc (Qga (ps.drop q)) rfl ?f0 ?f1 ?f2 ?f3 ?f4 ?f5 ?_)
       case f0=>rw[Q9a];simp
       case f1=>exact BV.out
       case f2=>exact QSb _
       case f3=>unfold maxLen;omega
       case f4=>omega
       case f5=>omega
       intro v8 w8 kD bO _
       have GU:=gZ.grown bO MH (fun g hg=>(H6.out.lt g hg).1)
       obtain⟨va2,vc2,rfl⟩:=Qea kD
       clear bO
       go_wp2_with fail
       go_ret
       exact⟨.slice va2 (k+1+(ps.length-q)) vc2,rfl,⟨by rw[iK.out,bZ.out];simpa using kD,uy.out⟩,GU⟩
      ·have hz:ps.length-q=0:=by omega
       rw[hz]at *
       clear hz zq
       have hd:Hid (ps.drop q=[]):=List.drop_eq_nil_of_le (by omega)
       go_wp2_with (at_builtin;refine QGb rfl (.tmp 53) (.tmp 54) 44 rfl w.heap.size 49 i0 2 Tryz.underlying44 hi _ (k+1) (Qga (ps.take k)++[.string p.name,.string p.value]) rfl (by exact H6.out) ra rc rfl ?_)
       go_ret
       exact⟨.slice va (k+1) vc,rfl,⟨by rw[iK.out,bZ.out,hd.out,show ps.length-q=0 from by omega];simpa[Qga]using H6.out,uy.out⟩,gZ⟩
end Go.Proofs.YtgaboghigefgbaaGreatDoor
