/- Lemmas on the way to the law; no conditions. -/
import Derived.Test.YtgaboghigefgbaaGreatDoorZ14
import Derived.Deep.DeepCutAuto
import Derived.Deep.CutBlock
import Derived.Deep.AppendLies
import Derived.Laws.AppendOwnNone
import Derived.ArgAppend
set_option linter.all false
set_option maxRecDepth 100000
set_option maxHeartbeats 8000000
namespace Go.Proofs.YtgaboghigefgbaaGreatDoor
open Go.Proofs.Tryz
open Go.Lib (hid)
open Go.RowKit
def Qra(l:List Nat):List Value:=l.map fun(k:Nat)=>Value.int .i64 (k:Int)
theorem QEe(l:List Nat):∀u∈Qra l,u.oneCell'=true:=by
 intro u hu;obtain⟨k,_,rfl⟩:=List.mem_map.1 hu;rfl
theorem QOk(l:List Nat):(Qra l).length=l.length*1:=by simp[Qra]
theorem QJp:(prog.info? 3).map (fun i=>(i.zero,i.size,i.bytes))=some (some (.int .i64 0),1,8):=by kernel_rfl
theorem QOg{f g:Nat→List Nat}:∀l:List Nat,(∀c∈l,f c=g c)→l.flatMap f=l.flatMap g
 | [],_=>rfl
 | x::l,h=>by rw[List.flatMap_cons,List.flatMap_cons,h x (by simp),QOg l (fun c hc=>h c (by simp[hc]))]
theorem QHo{T:List Qba}(h:Par T):∀(f g u:Nat),u<T.length→T.length≤u+f→T.length≤u+g→QZa T f u=QZa T g u:=by
 intro f
 induction f with
 | zero=>intro g u hu hf;omega
 | succ f ih=>
  intro g u hu hf hg;obtain⟨g,rfl⟩:∃x,g=x+1:=⟨g-1,by omega⟩;simp only[QZa]
  congr 1
  refine QOg _ fun c hc=>?_;obtain⟨h1,h2,h3⟩:=(QHc T u c).1 hc;have:=(h c h2 h1).2;exact ih g c h1 (by omega) (by omega)
theorem Q6c(w:World)(a b:Nat):(w.drewN a).drewN b=w.drewN (a+b):=by
 unfold World.drewN;simp[Nat.add_assoc]
theorem Q2n(c n:ByteArray):(ltS n c=true∧Op.bytesLess c.toList n.toList=false∧(c.toList==n.toList)=false)∨(ltS n c=false∧Op.bytesLess c.toList n.toList=true)∨(ltS n c=false∧Op.bytesLess c.toList n.toList=false∧(c.toList==n.toList)=true):=by
 cases h:ltS n c with
 | true=>
  left;refine⟨rfl,?_,?_⟩
  ·cases k:Op.bytesLess c.toList n.toList with
   | false=>rfl
   | true=>have:=Q5b h k;rw[Qqb]at this;cases this
  cases k:(c.toList==n.toList)with
  | false=>rfl
  | true=>have e:=(QCa c n).1 k;subst e;rw[Qqb]at h;cases h
 | false=>
  right;rcases Qad h with e|e
  ·subst e;right;exact⟨rfl,Qqb n,by simp⟩
  left;exact⟨rfl,e⟩
theorem Qks{w:World}{base:Nat}{e:TypeId}{g n cap:Nat}{xs:List Value}(h:w.ownsRow base e 1 (.slice (some ⟨g,0,none⟩) n cap) n xs)(p:Nat):∀j u,(xs.drop p)[j]? = some u→w.cell? ((⟨g,p,none⟩:Addr).add j)=some u:=by
 intro j u hu;have Gk:(⟨g,p,none⟩:Addr).add j=⟨g,p+j,none⟩:=by unfold Addr.add;split <;> simp_all
 rw[List.getElem?_drop]at hu;have hj:=(List.getElem?_eq_some_iff.1 hu).1;rw[Gk,h.cellAt (p+j) (by have:=h.1;omega),hu]
theorem Qjn{w:World}{base:Nat}{e:TypeId}{g n cap:Nat}{xs:List Value}(h:w.ownsRow base e 1 (.slice (some ⟨g,0,none⟩) n cap) n xs)(p:Nat):∀j u,(xs.take p)[j]? = some u→w.cell? ((⟨g,0,none⟩:Addr).add j)=some u:=by
 intro j u hu;have Gk:(⟨g,0,none⟩:Addr).add j=⟨g,j,none⟩:=by unfold Addr.add;split <;> simp_all
 have hj:=(List.getElem?_eq_some_iff.1 hu).1;simp at hj;rw[List.getElem?_take,if_pos (by omega)]at hu;rw[Gk,h.cellAt j (by have:=h.1;omega),hu]
theorem QJj(l:List Nat)(p:Nat):Qra (l.drop p)=(Qra l).drop p:=by simp[Qra,List.map_drop]
theorem Q7f(l:List Nat)(p:Nat):Qra (l.take p)=(Qra l).take p:=by simp[Qra,List.map_take]
def Qbh(T:List Qba)(u:Nat)(w:World)(e:Ending)(w':World):Prop:=
 ∃rv,e=.returned rv∧w'.ownsRow w.heap.size 3 1 rv (QZa T (T.length-u) u).length (Qra (QZa T (T.length-u) u))∧Below w.heap.size w w'
theorem Qnq(T:List Qba)(i c:Nat)(l:List Nat):QBi T i (c::l)=if ltS (Qya T i) (Qya T c)=true then 0 else 1+QBi T i l:=by
 unfold QBi;by_cases h:ltS (Qya T i) (Qya T c)=true
 ·simp[h]
 simp[h];omega
theorem Qoq(T:List Qba)(i:Nat)(l:List Nat)(p:Nat)(hp:p<l.length):QBi T i (l.drop p)=if ltS (Qya T i) (Qya T l[p])=true then 0 else 1+QBi T i (l.drop (p+1)):=by
 rw[List.drop_eq_getElem_cons hp,Qnq]
def QRo(T:List Qba)(u:Nat)(w:World)(a:Option Addr)(cap:Nat)(f:Nat)(x y:Value)(wr:World):Prop:=
 ∃k:Nat,x=.int .i64 k∧k≤T.length∧T.length≤k+f∧wr.ownsRow (w.heap.size+1+1) 3 1 y (Qkd T u k).length (Qra (Qkd T u k))∧(Qkd T u k=[]→y=.slice none 0 0)∧
  Holds wr w.heap.size #[.slice a T.length cap] 27∧Holds wr (w.heap.size+1) #[.int .i64 u] 3∧Below w.heap.size w wr
theorem Qzp{f:Nat→List Nat}(l:List Nat)(j:Nat):((l.take j).flatMap f).length≤(l.flatMap f).length:=by
 have h:l.flatMap f=(l.take j).flatMap f++(l.drop j).flatMap f:=by rw[←List.flatMap_append,List.take_append_drop]
 rw[h,List.length_append];omega
theorem Qyp{f:Nat→List Nat}(l:List Nat)(j:Nat)(h:j<l.length):(l.take (j+1)).flatMap f=(l.take j).flatMap f++f l[j]:=by
 rw[List.take_succ_eq_append_getElem h,List.flatMap_append];simp
def QPt(T:List Qba)(u:Nat)(w:World)(a:Option Addr)(cap:Nat)(cv:Value)(f:Nat)(x y:Value)(wr:World):Prop:=
 ∃j:Nat,x=.int .i64 j∧j≤(QEa T u).length∧(QEa T u).length≤j+f∧
  wr.ownsRow (w.heap.size+1) 3 1 y (u::((QEa T u).take j).flatMap (QZa T (T.length-u-1))).length (Qra (u::((QEa T u).take j).flatMap (QZa T (T.length-u-1))))∧
  wr.ownsRow (w.heap.size+1+1) 3 1 cv (QEa T u).length (Qra (QEa T u))∧(cv.ownBlock=none∨cv.ownBlock≠y.ownBlock)∧Holds wr w.heap.size #[.slice a T.length cap] 27∧Below w.heap.size w wr
theorem Qal(R:Nat→Prop)(v:Value)(T:List Qba)(Gv:Par T)(hl:T.length≤120):∀(m u:Nat) (w:World),Qoa R w v T→u<T.length→T.length-u≤m→
 Calls prog 129 #[.agg #[v],.int .i64 u] w (Qbh T u w):=by
 intro m
 induction m with
 | zero=>intro u w _ hu hm;omega
 | succ m ih=>
  intro u w hT hu hm;obtain⟨a,cap,rfl,gy,gh⟩:=hT.shape;have HT:=hid hT;clear hT;have HP:=hid Gv;have IH:=hid ih;clear ih;clear Gv;go_enter func129,ntmps129;go_wp2_with fail;go_loopg [18,6] (T.length) (fun f x y wr=>QRo T u w a cap f x y wr)
  case atStart=>exact⟨0,rfl,by omega,by omega,by exact World.ownsRow_nil _ _ _ _,fun _=>rfl,(Holds.new w _ _).alloc _,Holds.newAt (w:=w.alloc _) (by simp) _ _,(Bq).alloc (by simp) _⟩
  case round=>
   obtain⟨go,rfl⟩:∃x:Nat,x=gk:=⟨_,rfl⟩;obtain⟨wo,rfl⟩:∃x:World,x=wr:=⟨_,rfl⟩;obtain⟨k,rfl,hk,hf,Hi,hnil,hX,hO,hb⟩:=hrel;obtain⟨cv,rfl⟩:∃x:Value,x=u6:=⟨_,rfl⟩;have Hy:=hb.size;by_cases Hh:k<T.length
   ·obtain⟨g,o,pa,pc,rfl,hg,c0,c1,c2,hp,p1,p2,b0,b1,b2⟩:=(HT.o.new hb).at k Hh;by_cases hkid:k≠0∧QWa T k=(u:Int)
    ·obtain⟨GN,lE⟩:=hkid;have mT:=hid (show Qkd T u (k+1)=QLp T k (Qkd T u k)from by simp only[Qkd];rw[if_pos ⟨GN,lE⟩]);have e1:(T[k].parent != (u:Int))=false:=by rw[Qxa Hh]at lE;simp[lE]
     have e2:((k:Int)==0)=false:=by simp;omega
     clear GN lE;have kX:=(QTd T u k).1;have Aq:=QNh T u k;have wj:=hid (show ∀(p:Nat) (hp:p<(Qkd T u k).length),(Qkd T u k)[p]<T.length from fun p hp=>by have:=((kX _).1 (List.getElem_mem hp)).1;omega);clear kX;have j3:=hid hnil;clear hnil;generalize Qkd T u k=l at *
     have qW:=hX.alloc (.cells #[.int .i64 T[k].parent,.string T[k].name,.slice pa T[k].props.length pc] 46);have JB:=Holds.new wo #[.int .i64 T[k].parent,.string T[k].name,.slice pa T[k].props.length pc] 46;have mR:=hb.alloc Hy (.cells #[.int .i64 T[k].parent,.string T[k].name,.slice pa T[k].props.length pc] 46);have mY:=World.ownsRow.alloc Hi (.cells #[.int .i64 T[k].parent,.string T[k].name,.slice pa T[k].props.length pc] 46);go_upto_block 2 with fail;go_cut [9] (fun y wx=>∃n,y=.int .i64 (QBi T k l)∧(wo.alloc (.cells #[.int .i64 T[k].parent,.string T[k].name,.slice pa T[k].props.length pc] 46)).drewN n=wx)
     case first=>
      obtain⟨ca,cc,rfl⟩:=Qea mY;go_wp2_with fail;go_loopg [9] (l.length) (fun f y wx=>∃p n:Nat,y=.int .i64 p∧p≤l.length∧l.length≤p+f∧Hid (QBi T k l=p+QBi T k (l.drop p))∧(wo.alloc (.cells #[.int .i64 T[k].parent,.string T[k].name,.slice pa T[k].props.length pc] 46)).drewN n=wx)
      case atStart=>exact⟨0,0,rfl,by omega,by omega,by simp[Hid],rfl⟩
      case round=>
       obtain⟨p,n,rfl,hp,jq,hS,rfl⟩:=hrel;have x0:=qW.cell 0;have xl:=qW.lt;by_cases gz:p<l.length
       ·have yu:(p:Int)<(l.length:Int):=by omega
        obtain⟨cg,uj⟩:∃cg,ca=some ⟨cg,0,none⟩:=by
         rcases mY.2 with⟨_,h0⟩|⟨g',cp,cur,e,_⟩
         ·omega
         exact⟨g',by cases e;rfl⟩
        subst uj;have gG:=(mY.lt cg rfl).2;have Ji:=mY.cellAt p (by omega);rw[show(Qra l)[p]? = some (.int .i64 (l[p]:Int))from by simp[Qra,gz]]at Ji;have GI:=wj.o p gz;obtain⟨g',o',pa',pc',e',hg',d0,d1,d2,hp',q1,q2,r0,r1,r2⟩:=(HT.o.new mR).at (l[p]) GI;cases e';have Hk:=hid (Qoq T k l p gz);have n1:=JB.cell 1;have mB:=JB.lt;clear hp' d0 d2;have Jr:=Q2n (T[l[p]]).name T[k].name;rcases Jr with⟨KE,o1,o2⟩|⟨KE,o1⟩|⟨KE,o1,o2⟩
        ·have hE:=hid (show QBi T k l=p from by rw[hS.o,Hk.o,if_pos (by rw[QHa Hh,QHa GI];exact KE)];omega);clear KE;go_wp2_with fail;go_quiet(fail);go_wp2_with fail;go_meet;exact⟨_,by rw[hE.o],(Q6c _ _ _).symm⟩
        all_goals
         have hE:=hid (show QBi T k l=(p+1:Nat)+QBi T k (l.drop (p+1))from by rw[hS.o,Hk.o,if_neg (by rw[QHa Hh,QHa GI,KE];simp)];omega);clear KE;go_wp2_with fail;go_quiet(fail);go_wp2_with fail;go_roundg (gk-1)
         case measure=>omega
         case rel=>exact⟨p+1,_,by go_num,by omega,by omega,hE,rfl⟩
       have yu:¬(p:Int)<(l.length:Int):=by omega
       have hE:=hid (show QBi T k l=p from by rw[hS.o,List.drop_eq_nil_of_le (by omega)];rfl);have hd:decide ((p:Int)<(l.length:Int))=false:=by simpa using yu
       go_wp2_with fail;go_quiet(fail);go_wp2_with fail;go_meet;exact⟨_,by rw[hE.o],(Q6c _ _ _).symm⟩
     case rest=>
      obtain⟨n,rfl,hw⟩:=hcut;have oD:Holds wc w.heap.size #[.slice (some ⟨g,o,none⟩) T.length cap] 27:=by rw[←hw];exact qW.drewN n
      have lk:Holds wc (w.heap.size+1) #[.int .i64 u] 3:=by rw[←hw];exact(hO.alloc _).drewN n
      have JF:Below w.heap.size w wc:=by rw[←hw];exact QJa mR n
      have jR:wc.ownsRow (w.heap.size+1+1) 3 1 cv l.length (Qra l):=by rw[←hw];exact mY
      clear hw qW JB mR mY hX hO hb Hi wj c0 c1 c2;have vF:=JF.size;have gz:QBi T k l≤l.length:=(List.takeWhile_sublist _).length_le;have du:=hid (show QLp T k l=l.take (QBi T k l)++k::l.drop (QBi T k l)from rfl);obtain⟨i0,hi,Hz,Ho,H4⟩:=info_parts QJp;by_cases hl0:l=[]
      ·have Mf:=j3.o hl0;subst Mf;subst hl0;have KH:QBi T k []=0:=rfl;rw[KH];clear KH jR gz
       go_wp2_with(first
        | (at_builtin;refine wpList_append_own_none rfl (.tmp 52) (.tmp 55) 22 rfl wc.heap.size 3 i0 1 underlying22 hi (.slice (some ⟨wc.heap.size,0,none⟩) 1 1) 1 [.int .i64 k] rfl (by exact QWd (n:=1) rfl (Nat.le_refl _) rfl (by omega)) rfl ?_)
        | (at_builtin;refine wpList_append_own _ rfl (.tmp 60) (.tmp 61) 22 rfl (w.heap.size+1+1) 3 i0 (.int .i64 0) 1 8 underlying22 hi Hz Ho H4 rfl (by decide) (.slice none 0 0) 0 [] rfl (World.ownsRow_nil _ _ _ _) ⟨wc.heap.size,0,none⟩ 1 1 [.int .i64 k] rfl rfl ?c1 ?c2 ?c3 ?c4 ?c5 ?_))
       case c2=>rfl
       case c3=>unfold maxLen;omega
       case c5=>have:=lk.lt;simp;omega
       intro v' w6 Hj Hd _;have tZ:=(oD.alloc (.cells #[.int .i64 k] 3)).grown Hd (by simp[Value.ownBlock]);have Kt:=(lk.alloc (.cells #[.int .i64 k] 3)).grown Hd (by simp[Value.ownBlock]);have gn:=(JF.alloc vF (.cells #[.int .i64 k] 3)).grown Hd (by simp;omega) (fun q hq=>by simp[Value.ownBlock]at hq);clear Hd;obtain⟨va,vc,rfl⟩:=Qea Hj;go_wp2_with fail;go_roundg (go-1)
       case measure=>omega
       case rel=>exact⟨k+1,by go_num,by omega,by omega,by rw[mT.o];exact Hj,(fun e=>by rw[mT.o]at e;cases e),tZ,Kt,gn⟩
      obtain⟨cg,cc,Mf,oO,ib⟩:∃cg cc,cv=.slice (some ⟨cg,0,none⟩) l.length cc∧l.length≤cc∧cc≤maxLen:=by
       rcases jR.2 with⟨_,h0⟩|⟨g',cp,cur,e,_,_,h1,h2,_⟩
       ·exact absurd (List.length_eq_zero_iff.1 h0) hl0
       exact⟨g',cp,e,h1,h2⟩
      subst Mf;unfold maxLen at ib;generalize QBi T k l=p at *
      clear hl0;have JZ:=hid jR;clear jR;by_cases kU:cc=p
      ·obtain rfl:p=l.length:=by omega
       obtain rfl:cc=l.length:=by omega
       go_wp2_with(at_builtin;refine wpList_append_own _ rfl (.tmp 52) (.tmp 55) 22 rfl wc.heap.size 3 i0 (.int .i64 0) 1 8 underlying22 hi Hz Ho H4 rfl (by decide) (.slice (some ⟨wc.heap.size,0,none⟩) 1 1) 1 [.int .i64 k] rfl (by exact QWd (n:=1) rfl (Nat.le_refl _) rfl (by omega)) ⟨cg,0,none⟩ 0 0 [] rfl (by simp) ?a1 ?a2 ?a3 ?a4 ?a5 ?_)
       case a3=>unfold maxLen;omega
       intro v10 w10 Ke Gu _;have fT:=(oD.alloc (.cells #[.int .i64 k] 3)).grown Gu (fun e=>by have:wc.heap.size=w.heap.size:=Option.some.inj e;have:=oD.lt;omega);have ai:=(lk.alloc (.cells #[.int .i64 k] 3)).grown Gu (fun e=>by have:wc.heap.size=w.heap.size+1:=Option.some.inj e;have:=lk.lt;omega);have G9:Below wc.heap.size wc w10:=((Below.refl wc.heap.size wc).alloc (Nat.le_refl _) (.cells #[.int .i64 k] 3)).grown Gu (by simp) (fun q hq=>by have:wc.heap.size=q:=Option.some.inj hq;omega);have kG:=Qbb JZ.o G9;have GZ:=JF.trans (G9.mono vF);clear Gu;obtain⟨rg,rc,rfl,gi,Gz⟩:=Ke.form (by omega);have My:=hid Ke;have fu:=hid kG;have dF:=GZ.size;have oh:=ai.lt;clear Ke kG;go_wp2_with(at_builtin;refine wpList_append_grows _ rfl (.tmp 60) (.tmp 61) 22 rfl 3 i0 (.int .i64 0) 1 8 underlying22 hi Hz Ho H4 rfl (by decide) (some ⟨cg,0,none⟩) l.length l.length (Qra (l.take l.length)) rfl (by intro h;cases h) ?e0 ?e1 ⟨rg,0,none⟩ 1 rc ([.int .i64 k]) rfl ?e2 ?e3 ?e4 ?e5 ?e6 ?e7 ?_)
       case e0=>simp[Qra]
       case e1=>intro b Hc;cases Hc;rw[Q7f];exact Qjn fu.o l.length
       case e2=>simp
       case e3=>exact My.o.cells (g:=rg) rfl
       case e4=>
        intro x hx;simp at hx;subst hx;rfl
       case e5=>omega
       case e6=>unfold maxLen;omega
       case e7=>omega
       intro v11 w11 gQ H8;have fU:=fT.grown H8 (by simp);have fO:=ai.grown H8 (by simp);have mb:=GZ.grown H8 dF (fun q hq=>by cases hq);clear H8;obtain⟨va,vc,rfl⟩:=Qea gQ;have gZ:=Q1b gQ (show w.heap.size+1+1≤w10.heap.size by omega);go_wp2_with fail;go_roundg (go-1)
       case measure=>omega
       case rel=>exact⟨k+1,by go_num,by omega,by omega,by rw[mT.o,Q0f,du.o];simpa[Qra]using gZ,(fun e=>by rw[mT.o]at e;have:=congrArg List.length e;rw[Q0f]at this;simp at this),fU,fO,mb⟩
      have KQ:p<cc:=by omega
      go_wp2_with(at_builtin;refine wpList_append_own _ rfl (.tmp 52) (.tmp 55) 22 rfl wc.heap.size 3 i0 (.int .i64 0) 1 8 underlying22 hi Hz Ho H4 rfl (by decide) (.slice (some ⟨wc.heap.size,0,none⟩) 1 1) 1 [.int .i64 k] rfl (by exact QWd (n:=1) rfl (Nat.le_refl _) rfl (by omega)) ⟨cg,p,none⟩ (l.length-p) (cc-p) (Qra (l.drop p)) rfl (by simp[Qra]) ?b1 ?b2 ?b3 ?b4 ?b5 ?_)
      case b1=>rw[QJj];exact Qks (World.ownsRow.alloc JZ.o _) p
      case b2=>exact QEe _
      case b3=>unfold maxLen;omega
      case b4=>omega
      case b5=>simp
      intro v10 w10 Ke Gu _;have fT:=(oD.alloc (.cells #[.int .i64 k] 3)).grown Gu (fun e=>by have:wc.heap.size=w.heap.size:=Option.some.inj e;have:=oD.lt;omega);have ai:=(lk.alloc (.cells #[.int .i64 k] 3)).grown Gu (fun e=>by have:wc.heap.size=w.heap.size+1:=Option.some.inj e;have:=lk.lt;omega);have G9:Below wc.heap.size wc w10:=((Below.refl wc.heap.size wc).alloc (Nat.le_refl _) (.cells #[.int .i64 k] 3)).grown Gu (by simp) (fun q hq=>by have:wc.heap.size=q:=Option.some.inj hq;omega);have kG:=Qbb JZ.o G9;have GZ:=JF.trans (G9.mono vF);clear Gu;obtain⟨rg,rc,rfl,gi,Gz⟩:=Ke.form (by omega);have My:=hid Ke;have fu:=hid kG;have dF:=GZ.size;have oh:=ai.lt;clear Ke kG;go_wp2_with(at_builtin;refine wpList_append_grows _ rfl (.tmp 60) (.tmp 61) 22 rfl 3 i0 (.int .i64 0) 1 8 underlying22 hi Hz Ho H4 rfl (by decide) (some ⟨cg,0,none⟩) p p (Qra (l.take p)) rfl (by intro h;cases h) ?q0 ?q1 ⟨rg,0,none⟩ (1+(l.length-p)) rc ([.int .i64 k]++Qra (l.drop p)) rfl ?q2 ?q3 ?q4 ?q5 ?q6 ?q7 ?_)
      case q0=>simp[Qra];omega
      case q1=>intro b Hc;cases Hc;rw[Q7f];exact Qjn fu.o p
      case q2=>simp[Qra];omega
      case q3=>exact My.o.cells (g:=rg) rfl
      case q4=>
       intro x hx;rcases List.mem_append.1 hx with hx|hx
       ·simp at hx;subst hx;rfl
       exact QEe _ x hx
      case q5=>omega
      case q6=>unfold maxLen;omega
      case q7=>omega
      intro v11 w11 gQ H8;rw[show p+(1+(l.length-p))=l.length+1 from by omega]at gQ;have fU:=fT.grown H8 (by simp);have fO:=ai.grown H8 (by simp);have mb:=GZ.grown H8 dF (fun q hq=>by cases hq);clear H8;obtain⟨va,vc,rfl⟩:=Qea gQ;have gZ:=Q1b gQ (show w.heap.size+1+1≤w10.heap.size by omega);go_wp2_with fail;go_roundg (go-1)
      case measure=>omega
      case rel=>exact⟨k+1,by go_num,by omega,by omega,by rw[mT.o,Q0f,du.o];simpa[Qra]using gZ,(fun e=>by rw[mT.o]at e;have:=congrArg List.length e;rw[Q0f]at this;simp at this),fU,fO,mb⟩
    have mT:=hid (show Qkd T u (k+1)=Qkd T u k from by simp only[Qkd];rw[if_neg hkid]);have eS:QRo T u w (some ⟨g,o,none⟩) cap (go-1) (.int .i64 ((k+1:Nat):Int)) cv (wo.alloc (.cells #[.int .i64 T[k].parent,.string T[k].name,.slice pa T[k].props.length pc] 46)):=
     ⟨k+1,rfl,by omega,by omega,by rw[mT.o];exact Hi.alloc _,by rw[mT.o];exact hnil,hX.alloc _,hO.alloc _,hb.alloc Hy _⟩
    have j5:=hid eS;clear eS Hi hnil;by_cases e1:T[k].parent=(u:Int)
    ·have GN:k=0:=by
      by_cases h0:k=0
      ·exact h0
      exact absurd ⟨h0,by rw[Qxa Hh];exact e1⟩ hkid
     have e2:(T[k].parent != (u:Int))=false:=by simp[e1]
     have e3:((k:Int)==0)=true:=by simp;omega
     clear hkid e1 GN;go_wp2_with fail;go_roundg (go-1)
     case measure=>omega
     case rel=>exact j5.o
    have e2:(T[k].parent != (u:Int))=true:=by simpa using e1
    clear hkid e1;go_wp2_with fail;go_roundg (go-1)
    case measure=>omega
    case rel=>exact j5.o
   have jv:k=T.length:=by omega
   have H7:wo.ownsRow (w.heap.size+1+1) 3 1 cv (QEa T u).length (Qra (QEa T u)):=by unfold QEa;rw[←jv];exact Hi
   obtain⟨ca,cc,rfl⟩:=Qea H7;have gv:wo.ownsRow (w.heap.size+1) 3 1 (.slice (some ⟨w.heap.size+1,0,none⟩) 1 1) 1 [.int .i64 u]:=⟨rfl,.inr ⟨w.heap.size+1,1,_,rfl,Nat.le_refl _,hO,by omega,by unfold maxLen;omega,rfl,rfl⟩⟩;have Hl:(Value.slice ca (QEa T u).length cc).ownBlock=none∨(Value.slice ca (QEa T u).length cc).ownBlock≠(Value.slice (some ⟨w.heap.size+1,0,none⟩) 1 1).ownBlock:=by
    cases ca with
    | none=>exact .inl rfl
    | some q=>right;intro e;have:=(H7.lt q.block rfl).1;have e2:q.block=w.heap.size+1:=Option.some.inj e;omega
   clear Hi hnil hO jv;have dz:(QEa T u).length≤T.length:=QNh T u T.length;have GN:=fun c hc=>QHc T u c |>.1 hc;have wn:=hid GN;clear GN;go_wp2_with fail;go_loopg [66,5] ((QEa T u).length) (fun f x y wr=>QPt T u w a cap (.slice ca (QEa T u).length cc) f x y wr)
   case atStart=>exact⟨0,rfl,by omega,by omega,by exact gv,H7,Hl,hX,hb⟩
   case round=>
    obtain⟨j,rfl,hj,ux,ho,hc,kM,gw,Hc⟩:=hrel;clear gv H7 Hl hX hb;by_cases g9:j<(QEa T u).length
    ·have vN:=Qsl HP.o (T.length-u) u hu (by omega);have mT:=wn.o _ (List.getElem_mem g9);have gG:=(HP.o (QEa T u)[j] mT.2.1 mT.1).2;rw[mT.2.2]at gG;have yx:=hid (show QZa T (T.length-u) u=u::(QEa T u).flatMap (QZa T (T.length-u-1))from by
      obtain⟨q,hq⟩:∃q,T.length-u=q+1:=⟨T.length-u-1,by omega⟩;rw[hq];rfl)
     have ym:=hid (Qyp (f:=QZa T (T.length-u-1)) (QEa T u) j g9);have Jj:=Qzp (f:=QZa T (T.length-u-1)) (QEa T u) (j+1);have eE:=hid (QHo HP.o (T.length-(QEa T u)[j]) (T.length-u-1) (QEa T u)[j] mT.1 (by omega) (by omega));have vO:=Qsl HP.o (T.length-(QEa T u)[j]) (QEa T u)[j] mT.1 (by omega);rw[yx.o]at vN;rw[ym.o,List.length_append,←eE.o]at Jj;simp only[List.length_cons]at vN;obtain⟨cg,uj⟩:∃cg,ca=some ⟨cg,0,none⟩:=by
      rcases hc.2 with⟨_,h0⟩|⟨g',cp,cur,e,_⟩
      ·omega
      exact⟨g',by cases e;rfl⟩
     subst uj;have Ji:=hc.cellAt j (by omega);rw[show(Qra (QEa T u))[j]? = some (.int .i64 ((QEa T u)[j]:Int))from by simp[Qra,g9]]at Ji;have kF:=(hc.lt cg rfl).2;have x0:=gw.cell 0;have xl:=gw.lt;have o4:=hid (fun wx hx=>IH.o (QEa T u)[j] wx hx mT.1 (by omega));have hpos:0<(QZa T (T.length-(QEa T u)[j]) (QEa T u)[j]).length:=by
      obtain⟨q,hq⟩:∃q,T.length-(QEa T u)[j]=q+1:=⟨T.length-(QEa T u)[j]-1,by omega⟩;rw[hq];simp[QZa]
     clear mT wn gG;have KG:(u::((QEa T u).take j).flatMap (QZa T (T.length-u-1))).length+(QZa T (T.length-(QEa T u)[j]) (QEa T u)[j]).length≤120:=by simp only[List.length_cons];omega
     have Gf:=hid (show u::((QEa T u).take (j+1)).flatMap (QZa T (T.length-u-1))=(u::((QEa T u).take j).flatMap (QZa T (T.length-u-1)))++QZa T (T.length-(QEa T u)[j]) (QEa T u)[j]from by rw[ym.o,eE.o];rfl);clear Jj vN vO;unfold Qbh at o4;have o5:=hid (show j+1≤(QEa T u).length from g9);have Ge:=hid (show(QEa T u).length≤j+1+(gk-1)from by omega);generalize QZa T (T.length-(QEa T u)[j]) (QEa T u)[j]=wk at *
     generalize(QEa T u)[j]=c at *
     generalize(u::((QEa T u).take j).flatMap (QZa T (T.length-u-1)))=ol at *
     obtain⟨oa,oc,rfl⟩:=Qea ho;obtain⟨i0,hi,Hz,Ho,H4⟩:=info_parts QJp;have HO:=hid ho;have HC:=hid hc;have mq:=hid kM;clear ho hc kM;have Gx:=Hc.size;go_wp2_with fail;refine(o4.o _ (by exact HT.o.new Hc)).mono ?_;rintro e w3 ⟨rv,rfl,bT,Hg⟩;have GX:=hid (Qbb HO.o Hg);have xh:=Qbb HC.o Hg;have GA:=gw.fr Hg;have lL:=Hg.size;have hcl3:=(xh.lt cg rfl).2;obtain⟨rg,rc,rfl,gi,Gz⟩:=bT.form hpos;have iZ:=hid bT;clear bT x0 xl Ji;go_wp2_with(at_builtin;refine wpList_append_lies _ rfl (.tmp 70) (.tmp 73) 22 rfl (w.heap.size+1) 3 i0 (.int .i64 0) 1 8 underlying22 hi Hz Ho H4 rfl (by decide) (.slice oa ol.length oc) ol.length (Qra ol) rfl (by exact GX.o) ⟨rg,0,none⟩ wk.length rc (Qra wk) rfl ?z1 ?z2 ?z3 ?z4 ?z5 ?z6 ?z7 w3.heap.size ?z8 ?_)
     case z1=>exact QOk wk
     case z2=>exact iZ.o.cells (g:=rg) rfl
     case z3=>exact QEe wk
     case z4=>exact hpos
     case z5=>unfold maxLen;omega
     case z6=>omega
     case z7=>omega
     case z8=>rfl
     intro gg gc w4 Gs jt uf hlt4;have jI:=GA.grown jt (by
      intro e;have:=(GX.o.lt w.heap.size e).1;omega)
     have nO:=xh.kept jt mq.o;have Hu:=(Hc.trans (Hg.mono Gx)).grown jt (by omega) (fun q hq=>by have:=(GX.o.lt q hq).1;omega);have uY:(Value.slice (some ⟨cg,0,none⟩) (QEa T u).length cc).ownBlock≠(Value.slice (some ⟨gg,0,none⟩) (ol.length+wk.length) gc).ownBlock:=by
      intro e;have e2:cg=gg:=Option.some.inj e;rcases uf with h|h
      ·rcases mq.o with h2|h2
       ·cases h2
       exact h2 (by rw[h];show some cg=some gg;rw[e2])
      omega
     go_wp2_with fail;go_roundg (gk-1)
     case measure=>omega
     case rel=>exact⟨j+1,by go_num,o5.o,Ge.o,by rw[Gf.o,List.length_append];simpa[Qra]using Gs,nO,.inr (by simpa using uY),jI,Hu⟩
    have Ap:j=(QEa T u).length:=by omega
    have Hp:=hid (show u::((QEa T u).take j).flatMap (QZa T (T.length-u-1))=QZa T (T.length-u) u from by
     obtain⟨q,hq⟩:∃q,T.length-u=q+1:=⟨T.length-u-1,by omega⟩;rw[hq,List.take_of_length_le (by omega)];rfl)
    rw[Hp.o]at ho;obtain⟨oa,oc,rfl⟩:=Qea ho;clear Ap;go_wp2_with fail;go_ret;exact⟨_,rfl,Q1b ho (by omega),Hc⟩
theorem Q8k(R:Nat→Prop)(v:Value)(T:List Qba)(w:World)(hT:Qoa R w v T)(hn:Q3a T=true)(hl0:0<T.length)(hl:T.length≤120) :
 Calls prog 90 #[.agg #[v]] w fun e w'=>e=.returned (.bool (Qxb T))∧Below w.heap.size w w':=by
 obtain⟨a,cap,rfl,gy,gh⟩:=hT.shape;have HT:=hid hT;clear hT;have Gv:=QBa hn;have HW:=hid (Qhj hn hl0);have Ms:=fun wx hx=>Qal R (.slice a T.length cap) T Gv hl T.length 0 wx hx hl0 (by omega);unfold Qbh at Ms;simp only[Nat.sub_zero]at Ms;have KG:=hid (QYc Gv hl0);rw[show QZa T T.length 0=Qgb T from rfl,show((0:Nat):Int)=0 from rfl,KG.o]at Ms;have cC:=hid Ms;clear Ms hn Gv;go_enter func90,ntmps90;go_wp2_with fail;refine(cC.o _ (by exact HT.o.new (Bq))).mono ?_;rintro e w1 ⟨rv,rfl,Hi,Hb⟩;have GR:=(Holds.new w #[.slice a T.length cap] 27).fr Hb;have Hc:Below w.heap.size w w1:=(Bq).trans (Hb.mono (by simp));clear Hb cC;obtain⟨og,oc,rfl,aV,Hf⟩:=Hi.form hl0;go_wp2_with fail;go_loopg [11] (T.length) (fun f x wr=>∃j:Nat,x=.int .i64 j∧j≤T.length∧T.length≤j+f∧Hid ((Qgb T).take j=List.range j)∧w1=wr)
 case atStart=>exact⟨0,rfl,by omega,by omega,rfl,rfl⟩
 case round=>
  obtain⟨j,rfl,hj,hf,hP,rfl⟩:=hrel;by_cases Hh:j<T.length
  ·have o9:j<(Qgb T).length:=by rw[KG.o];exact Hh
   have Ji:=Hi.cellAt j (by omega);rw[show(Qra (Qgb T))[j]? = some (.int .i64 ((Qgb T)[j]:Int))from by simp[Qra,o9]]at Ji;have Gk:=hid (show(Qgb T).take (j+1)=(Qgb T).take j++[(Qgb T)[j]]from List.take_succ_eq_append_getElem o9);by_cases he:(Qgb T)[j]=j
   ·have he':((j:Int) != ((Qgb T)[j]:Int))=false:=by simp;omega
    have mF:=hid (show(Qgb T).take (j+1)=List.range (j+1)from by rw[Gk.o,hP.o,he,List.range_succ]);clear he;generalize(Qgb T)[j]=x at Ji he';clear Gk o9;go_wp2_with fail;go_roundg (gk-1)
    case measure=>omega
    case rel=>exact⟨j+1,by go_num,by omega,by omega,mF,rfl⟩
   have he':((j:Int) != ((Qgb T)[j]:Int))=true:=by simp;omega
   have hF:=hid (show Qxb T=false from by
    rw[HW.o,decide_eq_false,Bool.false_and];intro e;have:(Qgb T)[j]? = some j:=by rw[e];simp[Hh]
    rw[List.getElem?_eq_getElem o9]at this;exact he (Option.some.inj this))
   clear he;generalize(Qgb T)[j]=x at Ji he';clear Gk o9;go_wp2_with fail;go_ret;exact⟨Qka (by rw[hF.o]),Hc⟩
  have hO:=hid (show Qxb T=T.all fun n=>Qjd n.props from by
   have e:Qgb T=List.range T.length:=by
    have:=hP.o;rw[show j=T.length from by omega,List.take_of_length_le (by rw[KG.o];omega)]at this;exact this
   rw[HW.o,e,decide_eq_true rfl,Bool.true_and])
  clear hP;have bx0:=GR.cell 0;have blt:=GR.lt;go_wp2_with fail;go_loopg [23] (T.length) (fun f x wr=>∃k:Nat,x=.int .i64 k∧k≤T.length∧T.length≤k+f∧Hid (T.all (fun n=>Qjd n.props)=(T.drop k).all fun n=>Qjd n.props)∧Below w.heap.size w wr)
  case atStart=>exact⟨0,rfl,by omega,by omega,by simp[Hid],Hc⟩
  case round=>
   obtain⟨go,rfl⟩:∃x:Nat,x=gk:=⟨_,rfl⟩;obtain⟨wo,rfl⟩:∃x:World,x=wr:=⟨_,rfl⟩;obtain⟨k,rfl,hk,jq,hA,hb⟩:=hrel;have Hy:=hb.size;by_cases GI:k<T.length
   ·obtain⟨g,o,pa,pc,rfl,hg,c0,c1,c2,hp,p1,p2,b0,b1,b2⟩:=(HT.o.new hb).at k GI;have M1:=hid hp;clear hp;have Hk:=hid (show(T.drop k).all (fun n=>Qjd n.props)=(Qjd T[k].props&&(T.drop (k+1)).all fun n=>Qjd n.props)from by rw[List.drop_eq_getElem_cons GI];rfl);have Kc:=Holds.new wo #[.int .i64 T[k].parent,.string T[k].name,.slice pa T[k].props.length pc] 46;go_wp2_with fail
    go_loopg [7] (T[k].props.length) (fun f x wx=>∃(j m:Nat),x=.int .i64 j∧1≤j∧T[k].props.length≤j+f∧(1<j→j≤T[k].props.length)∧Hid (Qjd T[k].props=Qjd (T[k].props.drop (j-1)))∧
     wx=(wo.alloc (.cells #[.int .i64 T[k].parent,.string T[k].name,.slice pa T[k].props.length pc] 46)).drewN m)
    case atStart=>exact⟨1,0,rfl,by omega,by omega,by omega,by simp[Hid],rfl⟩
    case round=>
     obtain⟨j,m,rfl,o5,jq,Ge,hB,rfl⟩:=hrel;by_cases g9:j<T[k].props.length
     ·obtain⟨gp,op,e1,ly,d0,d1,d2,d3⟩:=M1.o.at j g9;obtain⟨gq,oq,e2,uC,f0,f1,f2,f3⟩:=M1.o.at (j-1) (by omega);subst e1;cases e2;have uG:j-1<T[k].props.length:=by omega
      have GQ:IntKind.i64.wrap ((j:Int)-1)=(j:Int)-1:=IntWalk.i64_in _ (by omega);have MQ:(0:Int)≤(j:Int)-1:=by omega
      have MS:((j:Int)-1).toNat=j-1:=by omega
      have MT:(j:Int)-1<(T[k].props.length:Int):=by omega
      have io:(j:Int)<(T[k].props.length:Int):=by omega
      have k8:=hid (Q1o T[k].props j o5 g9);cases KE:Op.bytesLess (T[k].props[j-1]).name.toList (T[k].props[j]).name.toList with
      | true=>
       have hL:=hid (show ltS (T[k].props[j-1]).name (T[k].props[j]).name=true from KE);go_wp2_with fail;go_quiet(fail);go_wp2_with fail;clear GQ MQ MS MT io;go_roundg (gk-1)
       case measure=>omega
       case rel=>exact⟨j+1,_,by go_num,by omega,by omega,by omega,by show _=_;rw[hB.o,k8.o,hL.o,Bool.true_and];rfl,rfl⟩
      | false=>
       have hL:=hid (show ltS (T[k].props[j-1]).name (T[k].props[j]).name=false from KE);go_wp2_with fail;go_quiet(fail);go_wp2_with fail;clear GQ MQ MS MT io;go_ret;exact⟨Qka (by rw[hO.o,hA.o,Hk.o,hB.o,k8.o,hL.o];simp),QJa (QJa (hb.alloc Hy _) _) _⟩
     have qB:=hid (show Qjd T[k].props=true from by rw[hB.o];exact QZo (by simp;omega));clear hB;have Hg:Below w.heap.size w ((wo.alloc (.cells #[.int .i64 T[k].parent,.string T[k].name,.slice pa T[k].props.length pc] 46)).drewN m):=QJa (hb.alloc Hy _) m;go_wp2_with fail;go_roundg (go-1)
     case measure=>omega
     case rel=>exact⟨k+1,by go_num,by omega,by omega,by show _=_;rw[hA.o,Hk.o,qB.o,Bool.true_and],Hg⟩
   go_wp2_with fail;go_ret;exact⟨Qka (by rw[hO.o,hA.o,List.drop_eq_nil_of_le (by omega)];rfl),hb⟩
theorem Qxh{T:List Qba}(h:Qza T=false):Qia T=3:=by unfold Qia;rw[if_pos h]
theorem Qqi{T:List Qba}(h:Qza T=true)(h2:Q3a T=false):Qia T=1:=by unfold Qia;rw[h,if_neg (by simp),if_pos h2]
theorem Qyh{T:List Qba}(h:Qza T=true)(h2:Q3a T=true)(h3:Qxb T=false):Qia T=12:=by unfold Qia;rw[h,h2,if_neg (by simp),if_neg (by simp),if_pos h3]
theorem QCn{T:List Qba}(h:Qza T=true)(h2:Q3a T=true)(h3:Qxb T=true):Qia T=if Q5e T=true then 5 else if QEd T=true then 2 else 0:=by
 unfold Qia;rw[h,h2,h3,if_neg (by simp),if_neg (by simp),if_neg (by simp),QXj h2]
def Qyj(T:List Qba)(k:Nat):Prop:=∀i,i<k→QUm T i i=false
theorem Qmp{T:List Qba}(h:Qyj T T.length):Q5e T=false:=by
 unfold Q5e;rw[List.any_eq_false];intro i hi;rw[h i (List.mem_range.1 hi)];simp
theorem QGn{T:List Qba}{i k:Nat}(hi:i<T.length)(hk:k<i)(h0:0<k)(h1:T[k].parent=T[i].parent)(h2:T[k].name=T[i].name):Q5e T=true:=by
 unfold Q5e;rw[List.any_eq_true];exact⟨i,List.mem_range.2 hi,(Qdh T i i).2 ⟨k,h0,hk,by rw[Qxa (by omega),Qxa hi,h1],by rw[QHa (by omega),QHa hi,h2]⟩⟩
theorem Q5s{T:List Qba}(h:∀i,i<T.length→Q8b T T.length i≤8):QEd T=false:=by
 unfold QEd;rw[List.any_eq_false];intro i hi;have:=h i (List.mem_range.1 hi);unfold Q8s;simp;omega
theorem QKr{T:List Qba}{i:Nat}(hi:i<T.length)(h:8<Q8b T T.length i):QEd T=true:=by
 unfold QEd;rw[List.any_eq_true];exact⟨i,List.mem_range.2 hi,decide_eq_true h⟩
theorem QVe(R:Nat→Prop)(v:Value)(T:List Qba)(w:World)(hT:Qoa R w v T) :
 Calls prog 42 #[.agg #[v]] w fun e w'=>e=.returned (.int .i64 (Qia T))∧Below w.heap.size w w':=by
 obtain⟨a,cap,rfl,gy,gh⟩:=hT.shape;have HT:=hid hT;clear hT;have He:Below w.heap.size w (w.alloc (.cells #[.slice a T.length cap] 27)):=Bq;have kj:=Holds.new w #[.slice a T.length cap] 27;have mW:=fun wx hx=>Q7h R (.slice a T.length cap) T wx hx;cases hL:Qza T with
 | false=>
  rw[hL]at mW;have Ma:=hid mW;have HC:=hid (Qxh hL);clear mW hL;go_enter func42,ntmps42;go_wp2_with fail;refine(Ma.o _ (by exact HT.o.new He)).mono ?_;rintro e w1 ⟨rfl,Hb⟩;go_wp2_with fail;go_ret;exact⟨QXa (by rw[HC.o]),He.trans (Hb.mono (by simp))⟩
 | true=>
  rw[hL]at mW;have Ma:=hid mW;have hlen:=Qlb hL;obtain⟨hlen1,KP⟩:=hlen;have Ht:=fun wx hx=>Quo R (.slice a T.length cap) T wx hx;clear mW;cases hN:Q3a T with
  | false=>
   rw[hN]at Ht;have Kg:=hid Ht;have HC:=hid (Qqi hL hN);clear Ht hL hN;go_enter func42,ntmps42;go_wp2_with fail;refine(Ma.o _ (by exact HT.o.new He)).mono ?_;rintro e w1 ⟨rfl,Hb⟩;have Hc:=He.trans (Hb.mono (by simp));have GR:=kj.fr Hb;have bx:=GR.cell 0;have bl:=GR.lt;go_wp2_with fail;refine(Kg.o _ (by exact HT.o.new Hc)).mono ?_;rintro e w2 ⟨rfl,Hg⟩;go_wp2_with fail;go_ret;exact⟨QXa (by rw[HC.o]),Hc.trans (Hg.mono Hc.size)⟩
  | true=>
   rw[hN]at Ht;have Kg:=hid Ht;have bT:=fun wx hx=>Q8k R (.slice a T.length cap) T wx hx hN (by omega) KP;clear Ht;cases hW:Qxb T with
   | false=>
    rw[hW]at bT;have iZ:=hid bT;have HC:=hid (Qyh hL hN hW);clear bT hL hN hW;go_enter func42,ntmps42;go_wp2_with fail;refine(Ma.o _ (by exact HT.o.new He)).mono ?_;rintro e w1 ⟨rfl,Hb⟩;have Hc:=He.trans (Hb.mono (by simp));have GR:=kj.fr Hb;have bx:=GR.cell 0;have bl:=GR.lt;go_wp2_with fail;refine(Kg.o _ (by exact HT.o.new Hc)).mono ?_;rintro e w2 ⟨rfl,Hg⟩;have Hu:=Hc.trans (Hg.mono Hc.size);have K8:=GR.fr Hg;clear bx bl;have bx:=K8.cell 0;have bl:=K8.lt;go_wp2_with fail;refine(iZ.o _ (by exact HT.o.new Hu)).mono ?_;rintro e w3 ⟨rfl,H5⟩;go_wp2_with fail;go_ret;exact⟨QXa (by rw[HC.o]),Hu.trans (H5.mono Hu.size)⟩
   | true=>
    rw[hW]at bT;have iZ:=hid bT;have HC:=hid (QCn hL hN hW);have bQ:=hid (fun(i:Nat) (hi:i<T.length) wx hx=>Q5i R (.slice a T.length cap) T i wx hx hN (by omega) (by omega) (by omega));clear bT hL hN hW;go_enter func42,ntmps42;go_wp2_with fail;refine(Ma.o _ (by exact HT.o.new He)).mono ?_;rintro e w1 ⟨rfl,Hb⟩;have Hc:=He.trans (Hb.mono (by simp));have GR:=kj.fr Hb;have bx:=GR.cell 0;have bl:=GR.lt;go_wp2_with fail;refine(Kg.o _ (by exact HT.o.new Hc)).mono ?_;rintro e w2 ⟨rfl,Hg⟩;have Hu:=Hc.trans (Hg.mono Hc.size);have K8:=GR.fr Hg;clear bx bl;have bx:=K8.cell 0;have bl:=K8.lt;go_wp2_with fail;refine(iZ.o _ (by exact HT.o.new Hu)).mono ?_;rintro e w3 ⟨rfl,H5⟩;have gn:=Hu.trans (H5.mono Hu.size);have j8:=K8.fr H5;clear bx bl Ma Kg iZ He Hb Hc Hg Hu H5 kj GR K8;have bx:=j8.cell 0;have bl:=j8.lt;go_wp2_with fail;go_loopg [18] (T.length) (fun f x wr=>∃i:Nat,x=.int .i64 i∧i≤T.length∧T.length≤i+f∧Hid (Qyj T i)∧Below w.heap.size w wr∧Holds wr w.heap.size #[.slice a T.length cap] 27)
    case atStart=>exact⟨0,rfl,by omega,by omega,(fun i h=>absurd h (Nat.not_lt_zero i):Qyj T 0),gn,j8⟩
    case round=>
     obtain⟨go,rfl⟩:∃x:Nat,x=gk:=⟨_,rfl⟩;obtain⟨wo,rfl⟩:∃x:World,x=wr:=⟨_,rfl⟩;obtain⟨i,rfl,hi,hf,hD,hb,hB⟩:=hrel;clear bx bl;have Hy:=hb.size;have bx:=hB.cell 0;have bl:=hB.lt;by_cases Hh:i<T.length
     ·obtain⟨g,o,pa,pc,rfl,hg,c0,c1,c2,hp,p1,p2,b0,b1,b2⟩:=(HT.o.new hb).at i Hh;have Kc:=Holds.new wo #[.int .i64 T[i].parent,.string T[i].name,.slice pa T[i].props.length pc] 46;clear hp;have Gf:=hid (HT.o.new hb);go_wp2_with fail;go_loopg [5] (i) (fun f x wx=>∃(k m:Nat),x=.int .i64 k∧1≤k∧i≤k+f∧Hid (QUm T i k=false)∧(1<k→k≤i)∧(wo.alloc (.cells #[.int .i64 T[i].parent,.string T[i].name,.slice pa T[i].props.length pc] 46)).drewN m=wx)
      case atStart=>exact⟨1,0,rfl,by omega,by omega,(by show QUm T i 1=false;rfl),by omega,rfl⟩
      case round=>
       obtain⟨k,m,rfl,Ga,jq,hF,Mg,rfl⟩:=hrel;by_cases kX:k<i
       ·obtain⟨g',o',pa',pc',e',hg',d0,d1,d2,hp',q1,q2,r0,r1,r2⟩:=Gf.o.at k (by omega);cases e';clear hp';have pb:(k:Int)<(i:Int):=by omega
        by_cases GC:T[k].parent=T[i].parent
        ·have iy:(T[k].parent==T[i].parent)=true:=by simp[GC]
         cases Hl:(T[k].name.toList==T[i].name.toList)with
         | true=>
          have hX:=hid (show Qia T=5 from by rw[HC.o,if_pos (QGn Hh kX (by omega) GC ((QCa _ _).1 Hl))]);clear GC;go_wp2_with fail;go_quiet(fail);go_wp2_with fail;go_ret;exact⟨QXa (by rw[hX.o]),QJa (QJa (hb.alloc Hy _) _) _⟩
         | false=>
          have KU:=hid (show QUm T i (k+1)=false from by
           simp only[QUm,hF.o];rw[show eqS (Qya T k) (Qya T i)=false from by rw[QHa (by omega),QHa Hh];exact Hl];simp)
          clear GC;go_wp2_with fail;go_quiet(fail);go_wp2_with fail;go_roundg (gk-1)
          case measure=>omega
          case rel=>exact⟨k+1,_,by go_num,by omega,by omega,KU,by omega,rfl⟩
        have iy:(T[k].parent==T[i].parent)=false:=by simpa using GC
        have KU:=hid (show QUm T i (k+1)=false from by
         simp only[QUm,hF.o];rw[show decide (QWa T k=QWa T i)=false from by rw[Qxa (by omega),Qxa Hh];simpa using GC];simp)
        clear GC;go_wp2_with fail;go_quiet(fail);go_wp2_with fail;go_roundg (gk-1)
        case measure=>omega
        case rel=>exact⟨k+1,_,by go_num,by omega,by omega,KU,by omega,rfl⟩
       have qE:=hid (show Qyj T (i+1)from by
        intro q hq;by_cases e:q=i
        ·subst e;by_cases h1:1<k
         ·have:k=q:=by have:=Mg h1;omega
          rw[←this]at hF ⊢;exact hF.o
         have pT:q=0∨q=1:=by omega
         rcases pT with rfl|rfl <;> rfl
        exact hD.o q (by omega))
       have Hg:Below w.heap.size w ((wo.alloc (.cells #[.int .i64 T[i].parent,.string T[i].name,.slice pa T[i].props.length pc] 46)).drewN m):=QJa (hb.alloc Hy _) m;have j8:=(hB.alloc (.cells #[.int .i64 T[i].parent,.string T[i].name,.slice pa T[i].props.length pc] 46)).drewN m;clear hF Mg;go_wp2_with fail;go_roundg (go-1)
       case measure=>omega
       case rel=>exact⟨i+1,by go_num,by omega,by omega,qE,Hg,j8⟩
     have hX:=hid (show Qia T=if QEd T=true then 2 else 0 from by
      rw[HC.o,Qmp (by have:=hD.o;rwa [show i=T.length from by omega]at this)];simp)
     clear hD HC;go_wp2_with fail;go_loopg [52] (T.length) (fun f x wr=>∃i:Nat,x=.int .i64 i∧i≤T.length∧T.length≤i+f∧Hid (∀q:Nat,q<i→Q8b T T.length q≤8)∧Below w.heap.size w wr∧Holds wr w.heap.size #[.slice a T.length cap] 27)
     case atStart=>exact⟨0,rfl,by omega,by omega,(fun q h=>absurd h (Nat.not_lt_zero q):∀q:Nat,q<0→Q8b T T.length q≤8),hb,hB⟩
     case round=>
      obtain⟨j,rfl,hj,ux,hE,Gd,fF⟩:=hrel;clear bx bl;have bx:=fF.cell 0;have bl:=fF.lt;by_cases g9:j<T.length
      ·by_cases h8:Q8b T T.length j≤8
       ·have Ks:=hid (show ∀q:Nat,q<j+1→Q8b T T.length q≤8 from fun q hq=>by
         by_cases e:q=j
         ·subst e;exact h8
         exact hE.o q (by omega))
        go_wp2_with fail;refine(bQ.o j g9 _ (by exact HT.o.new Gd)).mono ?_;rintro e w8 ⟨rfl,KB⟩;have i5:=fF.fr KB;go_wp2_with fail;go_roundg (gk-1)
        case measure=>omega
        case rel=>exact⟨j+1,by go_num,by omega,by omega,Ks,Gd.trans (KB.mono Gd.size),i5⟩
       have h8':8<Q8b T T.length j:=by omega
       have hY:=hid (show Qia T=2 from by rw[hX.o,if_pos (QKr g9 h8')]);clear h8;go_wp2_with fail;refine(bQ.o j g9 _ (by exact HT.o.new Gd)).mono ?_;rintro e w8 ⟨rfl,KB⟩;go_wp2_with fail;go_ret;exact⟨QXa (by rw[hY.o]),Gd.trans (KB.mono Gd.size)⟩
      have hY:=hid (show Qia T=0 from by rw[hX.o,Q5s (by have:=hE.o;rwa [show j=T.length from by omega]at this)];simp);go_wp2_with fail;go_ret;exact⟨QXa (by rw[hY.o]),Gd⟩
theorem QMi{a b:ByteArray}(h:a.data.toList=b.data.toList):a=b:=by
 cases a;cases b;congr;exact Array.toList_inj.1 h
theorem Q9k(R:Nat→Prop)(v:Value)(T:List Qba)(u:Nat)(w:World)(hT:Qoa R w v T)(hn:Q3a T=true)(hu:u<T.length)(hl:T.length≤120) :
 Calls prog 44 #[.agg #[v],.int .i64 u] w fun e w'=>e=.returned (.string (Qab T u))∧Below w.heap.size w w':=by
 obtain⟨a,cap,rfl,gy,gh⟩:=hT.shape;have HT:=hid hT;clear hT;have HN:=hid hn;clear hn;by_cases h0:u=0
 ·have h0':((u:Int)==0)=true:=by simp[h0]
  have hP:=hid (show Qab T u=⟨#[47]⟩from by unfold Qab;rw[if_pos h0]);clear h0;go_enter func44,ntmps44;go_wp2_with fail;go_ret;exact⟨by rw[hP.o];rfl,Bq⟩
 have h0':((u:Int)==0)=false:=by simp;omega
 have hP:=hid (show Qab T u=⟨(Q5d (pc T u)).toArray⟩from by unfold Qab;rw[if_neg h0]);have js:=hid (QJh HN.o u u (Nat.le_refl _) hu);clear h0;go_enter func44,ntmps44;go_wp2_with fail
 go_loopg [1,5] (u) (fun f x y wr=>∃(k:Nat) (o:ByteArray),x=.int .i64 k∧y=.string o∧k≤f∧k≤u∧o.size≤4000∧Hid (Q5d (pc T u)=Q5d (pc T k)++o.data.toList)∧
  ∃n,(w.alloc (.cells #[.slice a T.length cap] 27)).drewN n=wr)
 case atStart=>exact⟨u,ByteArray.empty,rfl,rfl,Nat.le_refl _,Nat.le_refl _,by decide,by show _=_;rw[show ByteArray.empty.data.toList=[]from rfl,List.append_nil],0,rfl⟩
 case round=>
  obtain⟨k,o,rfl,rfl,hf,lE,Ay,hF,n,rfl⟩:=hrel;by_cases GN:0<k
  ·have hk:k<T.length:=by omega
   obtain⟨g,oo,pa,pc',rfl,hg,c0,c1,c2,hp,p1,p2,b0,b1,b2⟩:=HT.o.at k hk;have ko:=QTh HN.o k hk;have gz:=Qib (QBa HN.o) GN hk;have GC:=hid (show T[k].parent=((QGb T k:Nat):Int)from by rw[gz.2,Qxa hk]);obtain⟨x1,oG,MV,Gy⟩:=QNe ⟨#[47]⟩ T[k].name (by rw[show(⟨#[47]⟩:ByteArray).size=1 from rfl];omega);rw[show(⟨#[47]⟩:ByteArray).size=1 from rfl]at MV;obtain⟨x2,oH,hx2,aG⟩:=QNe x1 o (by omega);have KU:=hid (show Q5d (pc T u)=Q5d (pc T (QGb T k))++x2.data.toList from by
    rw[hF.o,Qtb (QBa HN.o) GN hk,Qog,aG,Gy,QHa hk];simp)
   have iL:x2.size≤4000:=by
    have h1:=congrArg List.length KU.o;have h2:=js.o;simp only[List.length_append]at h1;have h3:x2.data.toList.length=x2.size:=by simp
    omega
   obtain⟨pO,MM⟩:=gz;clear hp c2 MV Gy hx2 aG hF MM;generalize T[k].parent=pp at c0 GC b1 b2;have iz:=GC.o;subst iz;generalize QGb T k=pk at *
   have Jn:(0:Int)<(k:Int):=by omega
   go_wp2_with fail;go_roundg (gk-1)
   case measure=>omega
   case rel=>exact⟨pk,x2,rfl,rfl,by omega,by omega,iL,KU,n,rfl⟩
  have Ga:k=0:=by omega
  subst Ga;have hE:=hid (show o=Qab T u from QMi (by rw[hP.o,hF.o,Qbe];rfl));clear hF;go_wp2_with fail;go_ret;exact⟨by rw[hE.o];rfl,QJa (Bq) n⟩
theorem Q5k(R:Nat→Prop)(v:Value)(T:List Qba)(node:Int)(w:World)(hT:Qoa R w v T) :
 Calls prog 15 #[.agg #[v],.int .i64 node] w fun e w'=>e=.returned (.string (QXk T node))∧Below w.heap.size w w':=by
 obtain⟨a,cap,rfl,gy,gh⟩:=hT.shape;have HT:=hid hT;clear hT;have gd:=fun wx hx=>QVe R (.slice a T.length cap) T wx hx;have hE:=hid (show QXk T node=if Qia T≠0∨node<0∨T.length≤node then ByteArray.empty else Qab T node.toNat from rfl);have He:Below w.heap.size w (w.alloc (.cells #[.slice a T.length cap] 27)):=Bq;have kj:=Holds.new w #[.slice a T.length cap] 27;by_cases hz:Qia T=0
 ·have Ht:=Q3b hz;have Mp:=Qlb (QQa hz);obtain⟨GO,gS⟩:=Mp;by_cases hr:node<0
  ·have hX:=hid (show QXk T node=ByteArray.empty from by rw[hE.o,if_pos (.inr (.inl hr))]);rw[hz]at gd;have ki:=hid gd;clear gd hz Ht;go_enter func15,ntmps15;go_wp2_with fail;refine(ki.o _ (by exact HT.o.new He)).mono ?_;rintro e w1 ⟨rfl,Hb⟩;go_wp2_with fail;go_ret;exact⟨by rw[hX.o];rfl,He.trans (Hb.mono (by simp))⟩
  by_cases Gz:(T.length:Int)≤node
  ·have hX:=hid (show QXk T node=ByteArray.empty from by rw[hE.o,if_pos (.inr (.inr Gz))]);rw[hz]at gd;have ki:=hid gd;have hr':0≤node:=by omega
   clear gd hz Ht hr;go_enter func15,ntmps15;go_wp2_with fail;refine(ki.o _ (by exact HT.o.new He)).mono ?_;rintro e w1 ⟨rfl,Hb⟩;have GR:=kj.fr Hb;have bx:=GR.cell 0;have bl:=GR.lt;go_wp2_with fail;go_ret;exact⟨by rw[hX.o];rfl,He.trans (Hb.mono (by simp))⟩
  obtain⟨k,rfl⟩:=Int.eq_ofNat_of_zero_le (show 0≤node by omega);have kX:k<T.length:=by omega
  have hX:=hid (show QXk T k=Qab T k from by rw[hE.o,if_neg (by rintro(h|h);exact h hz;omega),Int.toNat_natCast]);rw[hz]at gd;have ki:=hid gd;have K4:=hid (fun wx hx=>Q9k R (.slice a T.length cap) T k wx hx Ht kX gS);have hr':(k:Int)<(T.length:Int):=by omega
  clear gd hz Ht hr Gz;go_enter func15,ntmps15;go_wp2_with fail;refine(ki.o _ (by exact HT.o.new He)).mono ?_;rintro e w1 ⟨rfl,Hb⟩;have GR:=kj.fr Hb;have bx:=GR.cell 0;have bl:=GR.lt;have Hc:=He.trans (Hb.mono (by simp));go_wp2_with fail;refine(K4.o _ (by exact HT.o.new Hc)).mono ?_;rintro e w2 ⟨rfl,Hg⟩;go_wp2_with fail;go_ret;exact⟨by rw[hX.o];rfl,Hc.trans (Hg.mono Hc.size)⟩
 have hz':(Qia T != 0)=true:=by simpa using hz
 have hX:=hid (show QXk T node=ByteArray.empty from by rw[hE.o,if_pos (.inl hz)]);have ki:=hid gd;clear gd hz;generalize Qia T=c at *
 go_enter func15,ntmps15;go_wp2_with fail;refine(ki.o _ (by exact HT.o.new He)).mono ?_;rintro e w1 ⟨rfl,Hb⟩;go_wp2_with fail;go_ret;exact⟨by rw[hX.o];rfl,He.trans (Hb.mono (by simp))⟩
theorem Q7k(R:Nat→Prop)(v:Value)(T:List Qba)(s:ByteArray)(w:World)(hT:Qoa R w v T)(hn:Q3a T=true)(hl:T.length≤120) :
 Calls prog 43 #[.agg #[v],.string s] w fun e w'=>e=.returned (.int .i64 (QSb T s))∧Below w.heap.size w w':=by
 obtain⟨a,cap,rfl,gy,gh⟩:=hT.shape;have HT:=hid hT;clear hT;have HP:=hid (fun(k:Nat) (hk:k<T.length) wx hx=>Q9k R (.slice a T.length cap) T k wx hx hn hk hl);clear hn;go_enter func43,ntmps43;go_wp2_with fail;go_loopg [9] (T.length) (fun f x wr=>∃k:Nat,x=.int .i64 k∧k≤T.length∧T.length≤k+f∧Hid (∀q:Nat,q<k→eqS (Qab T q) s=false)∧Below w.heap.size w wr∧Holds wr w.heap.size #[.slice a T.length cap] 27)
 case atStart=>exact⟨0,rfl,by omega,by omega,(fun q h=>absurd h (Nat.not_lt_zero q):∀q:Nat,q<0→eqS (Qab T q) s=false),Bq,Holds.new w _ _⟩
 case round=>
  obtain⟨k,rfl,hk,hf,hF,hb,hB⟩:=hrel;have Hy:=hb.size;have bx:=hB.cell 0;have bl:=hB.lt;by_cases Hh:k<T.length
  ·cases he:((Qab T k).toList==s.toList)with
   | true=>
    have hX:=hid (QHh Hh he hF.o);go_wp2_with fail;refine(HP.o k Hh _ (by exact HT.o.new hb)).mono ?_;rintro e w1 ⟨rfl,Hb⟩;go_wp2_with fail;go_ret;exact⟨QXa (by rw[hX.o]),hb.trans (Hb.mono Hy)⟩
   | false=>
    have KU:=hid (show ∀q:Nat,q<k+1→eqS (Qab T q) s=false from fun q hq=>by
     by_cases e:q=k
     ·subst e;exact he
     exact hF.o q (by omega))
    go_wp2_with fail;refine(HP.o k Hh _ (by exact HT.o.new hb)).mono ?_;rintro e w1 ⟨rfl,Hb⟩;have GR:=hB.fr Hb;go_wp2_with fail;go_roundg (gk-1)
    case measure=>omega
    case rel=>exact⟨k+1,by go_num,by omega,by omega,KU,hb.trans (Hb.mono Hy),GR⟩
  have hX:=hid (Q0m (s:=s) (by have:=hF.o;rwa [show k=T.length from by omega]at this));go_wp2_with fail;go_ret;exact⟨QXa (by rw[hX.o]),hb⟩
theorem Qxg(R:Nat→Prop)(v:Value)(T:List Qba)(s:ByteArray)(w:World)(hT:Qoa R w v T) :
 Calls prog 63 #[.agg #[v],.string s] w fun e w'=>e=.returned (.tuple #[.int .i64 (Qua T s).1,.int .i64 (Qua T s).2])∧Below w.heap.size w w':=by
 obtain⟨a,cap,rfl,gy,gh⟩:=hT.shape;have HT:=hid hT;clear hT;have gd:=fun wx hx=>QVe R (.slice a T.length cap) T wx hx;have hE:=hid (show Qua T s=if Qia T≠0 then(0,Qia T)else if 0≤QSb T s then(QSb T s,0)else(0,4)from rfl);have He:Below w.heap.size w (w.alloc (.cells #[.slice a T.length cap] 27)):=Bq;have kj:=Holds.new w #[.slice a T.length cap] 27;by_cases hz:Qia T=0
 ·have Ht:=Q3b hz;have gS:=(Qlb (QQa hz)).2;have K4:=hid (fun wx hx=>Q7k R (.slice a T.length cap) T s wx hx Ht gS);have GD:=QSf T s;by_cases hf:0≤QSb T s
  ·have hX:=hid (show Qua T s=(QSb T s,0)from by rw[hE.o,if_neg (by simp[hz]),if_pos hf]);rw[hz]at gd;have ki:=hid gd;clear gd hz Ht hE GD;generalize QSb T s=x at *
   go_enter func63,ntmps63;go_wp2_with fail;refine(ki.o _ (by exact HT.o.new He)).mono ?_;rintro e w1 ⟨rfl,Hb⟩;have GR:=kj.fr Hb;have bx:=GR.cell 0;have bl:=GR.lt;have Hc:=He.trans (Hb.mono (by simp));go_wp2_with fail;refine(K4.o _ (by exact HT.o.new Hc)).mono ?_;rintro e w2 ⟨rfl,Hg⟩;go_wp2_with fail;go_ret2;exact⟨by rw[hX.o];rfl,Hc.trans (Hg.mono Hc.size)⟩
  have hX:=hid (show Qua T s=(0,4)from by rw[hE.o,if_neg (by simp[hz]),if_neg hf]);have hf':QSb T s<0:=by omega
  rw[hz]at gd;have ki:=hid gd;clear gd hz Ht hE GD hf;generalize QSb T s=x at *
  go_enter func63,ntmps63;go_wp2_with fail;refine(ki.o _ (by exact HT.o.new He)).mono ?_;rintro e w1 ⟨rfl,Hb⟩;have GR:=kj.fr Hb;have bx:=GR.cell 0;have bl:=GR.lt;have Hc:=He.trans (Hb.mono (by simp));go_wp2_with fail;refine(K4.o _ (by exact HT.o.new Hc)).mono ?_;rintro e w2 ⟨rfl,Hg⟩;go_wp2_with fail;go_ret2;exact⟨by rw[hX.o];rfl,Hc.trans (Hg.mono Hc.size)⟩
 have hz':(Qia T != 0)=true:=by simpa using hz
 have hX:=hid (show Qua T s=(0,Qia T)from by rw[hE.o,if_pos hz]);have ki:=hid gd;clear gd hz hE;generalize Qia T=c at *
 go_enter func63,ntmps63;go_wp2_with fail;refine(ki.o _ (by exact HT.o.new He)).mono ?_;rintro e w1 ⟨rfl,Hb⟩;go_wp2_with fail;go_ret2;exact⟨by rw[hX.o];rfl,He.trans (Hb.mono (by simp))⟩
section
variable{P:Program}{w:World}
theorem Qbi(base:Nat)(t ty e:TypeId)(i:TypeInfo)(size:Nat)(ht:P.underlying t=some (.slice e))(hi:P.info? e=some i)
 (v:Value) (n:Nat) (xs:List Value) (Hi:w.ownsRow base e size v n xs) (ao:Option Addr) (c:Nat) :
 (Builtin.append_ #[t,t] ty #[v,.slice ao 0 c]).run P w=.ok v w:=by
 rcases Hi.2 with⟨rfl,rfl⟩|⟨g,cap,cur,rfl,_,_,hnc,_⟩
 ·cases ao <;> simp[Builtin.append_,run_underlying ht,sizeOf,typeInfo,hi,Builtin.lenOf,Builtin.firstCells,loadCells,loadCellsFrom]
 cases ao <;> simp[Builtin.append_,run_underlying ht,sizeOf,typeInfo,hi,Builtin.lenOf,Builtin.firstCells,hnc,storeCells,loadCells,loadCellsFrom]
theorem Qrb{ops:Array Oper}{rest:List Oper}{o:Oper}{a:Act}{Q:Exit→Act→World→Prop}(JH:o.guard=none)(s x:Operand)(t:TypeId)
 (ho:o.op=.call { callee:=.builtin .append,args:=#[s,x],argTypes:=#[t,t] })
 (base:Nat) (e:TypeId) (i:TypeInfo) (size:Nat) (ht:P.underlying t=some (.slice e)) (hi:P.info? e=some i)
 (v:Value) (n:Nat) (xs:List Value) (hs:a.eval s=v) (Hi:w.ownsRow base e size v n xs) (ao:Option Addr) (c:Nat) (hx:a.eval x=.slice ao 0 c)
 (h:wpList P ops Q rest (a.put o.dst v) w):wpList P ops Q (o::rest) a w:=by
 refine wpList_plain JH fun K hK=>?_;have Gw:=Qbi (P:=P) (w:=w) base t o.type e i size ht hi v n xs Hi ao c;unfold Oper.wp;simp[execOp,ho,resolve,invoke,builtin,hs,hx,Gw,Result.andThen];exact hK _ _ h
end
theorem Qub{W:World}{B base size:Nat}{E:TypeId}(hB:W.heap.size=B)(hb:base≤B):(W.alloc (.cells #[] E)).ownsRow base E size (.slice (some ⟨B,0,none⟩) 0 0) 0 []:=by
 subst hB;exact World.ownsRow_made W #[] 0 hb (by unfold maxLen;omega) (by simp)
theorem Q1d{w w':World}{g o B:Nat}{xs:List Value}(h:∀j u,xs[j]? = some u→w.cell? ((⟨g,o,none⟩:Addr).add j)=some u)(hg:g<B)(k:Below B w w') :
 ∀j u,xs[j]? = some u→w'.cell? ((⟨g,o,none⟩:Addr).add j)=some u:=by
 intro j u hu;have Gk:(⟨g,o,none⟩:Addr).add j=⟨g,o+j,none⟩:=by unfold Addr.add;split <;> simp_all
 have:=h j u hu;rw[Gk]at this ⊢;exact(k.cell (p:=⟨g,o+j,none⟩) hg).trans this
def QSs(T:List Qba)(w:World)(a:Option Addr)(cap:Nat)(f:Nat)(x:Value)(wr:World):Prop:=
 ∃(k:Nat) (v:Value),x=.int .i64 k∧k≤T.length∧T.length≤k+f∧Holds wr (w.heap.size+1+1) #[v] 27∧Qda wr w.heap.size v (T.take k)∧
  Holds wr w.heap.size #[.slice a T.length cap] 27∧Holds wr (w.heap.size+1) #[.slice none 0 0] 27∧Below w.heap.size w wr
def Qkr(T:List Qba)(w:World)(e:Ending)(w':World):Prop:=∃v,e=.returned (.agg #[v])∧Qda w' w.heap.size v T∧Below w.heap.size w w'
theorem Qll{T:List Qba}{k:Nat}(h:k<T.length):T.take (k+1)=T.take k++[T[k]]:=List.take_succ_eq_append_getElem h
def QQo(n:Qba)(Nd:Nat)(wr:World)(y:Value)(wx:World):Prop:=
 ∃pv,y=.pointer (some ⟨Nd,0,none⟩)∧Holds wx Nd #[.int .i64 n.parent,.string n.name,pv] 46∧Qna wx wr.heap.size pv n.props∧Below wr.heap.size wr wx
theorem QGf(R:Nat→Prop)(v:Value)(T:List Qba)(w:World)(hT:Qoa R w v T)(hl:T.length≤120)(Gt:∀n∈T,n.props.length≤1000) :
 Calls prog 65 #[.agg #[v]] w (Qkr T w):=by
 obtain⟨a,cap,rfl,gy,gh⟩:=hT.shape;have HT:=hid hT;clear hT;have j4:=hid Gt;clear Gt;go_enter func65,ntmps65;go_wp2_with fail;go_loopg [9] (T.length) (fun f x wr=>QSs T w a cap f x wr)
 case atStart=>exact⟨0,_,rfl,by omega,by omega,Holds.newAt (w:=(w.alloc _).alloc _) (by simp) _ _,Qda.nil _ _,((Holds.new w _ _).alloc _).alloc _,(Holds.newAt (w:=w.alloc _) (by simp) _ _).alloc _,((Bq).alloc (by simp) _).alloc (by simp;omega) _⟩
 case round=>
  obtain⟨k,v,rfl,hk,hf,hO,hR,hX,hZ,hb⟩:=hrel;have Hy:=hb.size;by_cases Hh:k<T.length
  ·obtain⟨g,o,pa,pc,rfl,hg,c0,c1,c2,hp,p1,p2,b0,b1,b2⟩:=(HT.o.new hb).at k Hh;have gz:=j4.o T[k] (List.getElem_mem Hh);have mK:Qcc T[k]:=⟨b0,b1,b2⟩;have Kh:=Holds.new wr #[.int .i64 T[k].parent,.string T[k].name,.slice pa T[k].props.length pc] 46;have He:Below wr.heap.size wr (wr.alloc (.cells #[.int .i64 T[k].parent,.string T[k].name,.slice pa T[k].props.length pc] 46)):=Bq;have M0:=hid (hp.new He);clear hp;have mP:=hid (Qll Hh);have su:=hid mK;clear mK;generalize T[k]=nd at *
   go_upto_region 5 with fail;go_cut [5] (fun y wx=>QQo nd wr.heap.size wr y wx)
   case first=>
    have hE:=Holds.newAt (w:=wr.alloc (.cells #[.int .i64 nd.parent,.string nd.name,.slice pa nd.props.length pc] 46)) (B:=wr.heap.size+1) (by simp) #[] 49;have n2:=Kh.cell 2;have f2:=Kh.free 2;have l2:=Kh.lt;obtain⟨i0,hi,Hz,Ho,H4⟩:=info_parts QGc;by_cases hpz:nd.props.length=0
    ·have mD:nd.props=[]:=List.length_eq_zero_iff.1 hpz;rw[hpz]at *
     have bC:=hid mD;clear mD hpz;go_wp2_with(at_builtin;refine Qrb rfl _ _ 44 rfl wr.heap.size 49 i0 2 underlying44 hi (.slice (some ⟨wr.heap.size+1,0,none⟩) 0 0) 0 [] rfl (by exact Qub (by simp) (by omega)) pa pc rfl ?_);go_meet;refine⟨_,rfl,(Holds.new wr _ _).alloc _,?_,(Bq).alloc (by simp) _⟩;rw[bC.o];exact⟨Qub (by simp) (by omega),fun _ h=>by cases h⟩
    obtain⟨pg,po,lI,JI,_,Kn,KQ,MN⟩:=M0.o.row (by omega);subst lI;have cy:=hid KQ;have ft:=hid Kn;clear KQ Kn MN;go_wp2_with(at_builtin;refine wpList_append_own _ rfl _ _ 44 rfl wr.heap.size 49 i0 (.agg #[.string ⟨#[]⟩,.string ⟨#[]⟩]) 2 32 underlying44 hi Hz Ho H4 rfl (by decide) (.slice (some ⟨wr.heap.size+1,0,none⟩) 0 0) 0 [] rfl (by exact Qub (by simp) (by omega)) ⟨pg,po,none⟩ nd.props.length pc (Qfa nd.props) rfl (Q4a _) ?c1 ?c2 ?c3 ?c4 ?c5 ?_)
    case c1=>exact Q1d cy.o JI (Bq)
    case c2=>exact QDb _
    case c3=>unfold maxLen;omega
    case c4=>omega
    case c5=>simp;omega
    intro v' w5 Hj Hd _;have ah:=(Kh.alloc (.cells #[] 49)).grown Hd (fun e=>by have:wr.heap.size+1=wr.heap.size:=Option.some.inj e;omega);have H5:=(He.alloc (by simp) (.cells #[] 49)).grown Hd (by simp;omega) (fun q hq=>by have:wr.heap.size+1=q:=Option.some.inj hq;omega);clear Hd n2 f2 l2;obtain⟨va,vc,rfl⟩:=Qea Hj;have n2:=ah.cell 2;have f2:=ah.free 2;have l2:=ah.lt;go_wp2_with fail;go_meet;exact⟨_,rfl,ah.set 2 _,⟨Qvc Hj ah (by decide) 2 _,ft.o⟩,H5.setCell (p:=⟨wr.heap.size,2,none⟩) (Nat.le_refl _) _⟩
   case rest=>
    obtain⟨pv,rfl,hN,hP,Hg⟩:=hcut;clear Kh He;have GX:=hO.fr Hg;have GA:=hX.fr Hg;have gf:=hZ.fr Hg;have Jf:=hR.new Hg;have Hu:=hb.trans (Hg.mono Hy);have MP:=Hu.size;have Jg:(T.take k).length=k:=by simp;omega
    generalize T.take k=T0 at *
    obtain⟨pvs,g1,g2,g3,g4⟩:=Jf;have G3:=hid g3;have G4:=hid g4;have G1:=hid g1;have e1:T0.length+1≤maxLen:=by unfold maxLen;omega
    have e2:(T0.length+1)*48≤140737488355328:=by omega
    clear g3 g4 g1 hX hR hO hZ Jg;obtain⟨pa2,pc2,Kf⟩:=Qea hP.1;obtain⟨xa,xc,rfl⟩:=Qea g2;have x0:=GX.cell 0;have xl:=GX.lt;have m0:=hN.cell 0;have m1:=hN.cell 1;have m2:=hN.cell 2;have ml:=hN.lt;obtain⟨i0,hi,Hz,Ho,H4⟩:=info_parts QRg;have sF:=hid Kf;clear Kf;go_wp2_with(at_builtin;refine wpList_append_own _ rfl _ _ 25 rfl w.heap.size 46 i0 (.agg #[.int .i64 0,.string ⟨#[]⟩,.slice none 0 0]) 3 48 underlying25 hi Hz Ho H4 rfl (by decide) _ T0.length (Qpa T0 pvs) rfl (by exact World.ownsRow.alloc g2 _) ⟨wc.heap.size,0,none⟩ 1 1 [.int .i64 nd.parent,.string nd.name,pv] rfl rfl ?d1 ?d2 ?d3 ?d4 ?d5 ?_)
    case d1=>exact Q8a _ _ _ _ rfl _ rfl
    case d2=>
     intro u hu;simp at hu;rcases hu with rfl|rfl|rfl
     ·rfl
     ·rfl
     rw[sF.o];rfl
    case d3=>exact e1
    case d4=>exact e2
    case d5=>simp;omega
    intro v' w6 Hj Hd _;have Kt:=(GX.alloc (.cells #[.int .i64 nd.parent,.string nd.name,pv] 46)).grown Hd (Qla g2 GX (by decide));have tZ:=(GA.alloc (.cells #[.int .i64 nd.parent,.string nd.name,pv] 46)).grown Hd (Qla g2 GA (by decide));have JE:=(gf.alloc (.cells #[.int .i64 nd.parent,.string nd.name,pv] 46)).grown Hd (Qla g2 gf (by decide));have gn:=(Hu.alloc MP (.cells #[.int .i64 nd.parent,.string nd.name,pv] 46)).grown Hd (by simp;omega) (fun g hg=>(g2.lt g hg).1);have ma:Below wc.heap.size wc (wc.alloc (.cells #[.int .i64 nd.parent,.string nd.name,pv] 46)):=Bq;have kT:Qda w6 w.heap.size v' (T0++[nd]):=Qda.more G1.o (World.ownsRow.alloc g2 _) (fun q hq KI=>(G3.o q hq KI).new ma) G4.o ((hP.base Hy).new ma) su.o Hj Hd;obtain⟨va,vc,rfl⟩:=Qea Hj;clear Hd Hj x0 xl m0 m1 m2 ml;have x0:=Kt.cell 0;have xf:=Kt.free 0;have xl:=Kt.lt;go_wp2_with fail;go_roundg (gk-1)
    case measure=>omega
    case rel=>exact⟨k+1,_,by go_num,by omega,by omega,Kt.set 0 _,by rw[mP.o];exact kT.set Kt (by decide) (by decide) 0 _,tZ.other _ _ (by show w.heap.size≠w.heap.size+1+1;omega),JE.other _ _ (by show w.heap.size+1≠w.heap.size+1+1;omega),gn.setCell (p:=⟨w.heap.size+1+1,0,none⟩) (by simp;omega) _⟩
  have jv:T.take k=T:=List.take_of_length_le (by omega);rw[jv]at hR;have x0:=hO.cell 0;have xl:=hO.lt;have z0:=hZ.cell 0;have zf:=hZ.free 0;have zl:=hZ.lt;have kZ:=hR.set hZ (by decide) (by decide) 0 v;have Hc:=hb.setCell (p:=⟨w.heap.size+1,0,none⟩) (by simp) v;obtain⟨va,vc,hv⟩:∃va vc,v=.slice va T.length vc:=by obtain⟨_,_,g2,_⟩:=hR;exact Qea g2
  subst hv;clear jv;go_wp2_with fail;have q0:(wr.setCell ⟨w.heap.size+1,0,none⟩ (.slice va T.length vc)).cell? ⟨w.heap.size+1,0,none⟩=some (.slice va T.length vc):=(hZ.set 0 _).cell 0;exact bodyPost_ret (v:=.agg #[.slice va T.length vc]) (by simp[results,Tryz.results65,go_sem,q0]) rfl ⟨_,rfl,kZ,Hc⟩
theorem QMk(n:Nat)(hn:n≤1000)(wx:World):(Instr.makeSlice 22 (.int .i64 n) (.int .i64 n)).run prog wx=.ok (.slice (some ⟨wx.heap.size,0,none⟩) n n) (wx.alloc (.cells (Array.replicate n (.int .i64 0)) 3)):=by
 obtain⟨i0,hi,Hz,Ho,H4⟩:=info_parts QJp;have:=run_make (P:=prog) wx 22 3 i0 _ underlying22 hi Hz .i64 .i64 n n (by omega) (by omega) (by rw[H4];omega) (by omega);rw[this,Ho,show(Value.int .i64 0).cells=#[.int .i64 0]from rfl];simp[QWc]
def Qud(l:List Nat):Array Value:=(Qra l).toArray
theorem QUh(l:List Nat)(k:Nat)(h:k<l.length):(Qud l)[k]? = some (.int .i64 (l[k]:Int)):=by simp[Qud,Qra,h]
theorem Q0i(l:List Nat)(k x:Nat):(Qud l).setIfInBounds k (.int .i64 (x:Int))=Qud (l.set k x):=by simp[Qud,Qra,List.map_set]
def Qtu(L:List Qba)(AB:Nat)(wl:World)(f:Nat)(x:Value)(wr:World):Prop:=
 ∃(i:Nat) (l:List Nat),x=.int .i64 i∧i≤L.length∧L.length≤i+f∧l.length=L.length∧(∀(q:Nat) (_:q<i) (hq:q<(Qgb L).length),l.getD (Qgb L)[q] 0=q)∧
  Holds wr AB (Qud l) 3∧Qaa (fun b=>b=AB) wl wr
theorem QQr(l:List Nat)(a x b:Nat)(ha:a<l.length):(l.set a x).getD b 0=if a=b then x else l.getD b 0:=by
 rw[List.getD_eq_getElem?_getD,List.getElem?_set,List.getD_eq_getElem?_getD];by_cases h:a=b
 ·subst h;rw[if_pos rfl,if_pos ha,if_pos rfl];rfl
 rw[if_neg h,if_neg h]
def QHb(w:World)(b1 b2:Nat)(v:Value)(T:List Qba):Prop:=
 ∃pvs:List Value,pvs.length=T.length∧w.ownsRow b1 46 3 v T.length (Qpa T pvs)∧(∀k (_:k<T.length) (_:k<pvs.length),Qna w b2 pvs[k] T[k].props)∧∀n∈T,Qcc n
theorem QHb.one{w:World}{b1 b2:Nat}{v:Value}{T:List Qba}(h:QHb w b1 b2 v T)(hb:b2≤b1):Qda w b2 v T:=by
 obtain⟨pvs,h1,h2,h3,h4⟩:=h;exact⟨pvs,h1,Q1b h2 hb,h3,h4⟩
theorem QHb.new{w w':World}{b1 b2:Nat}{v:Value}{T:List Qba}(h:QHb w b1 b2 v T)(k:Below w.heap.size w w'):QHb w' b1 b2 v T:=by
 obtain⟨pvs,h1,h2,h3,h4⟩:=h;exact⟨pvs,h1,Qbb h2 k,fun j hj Ge=>(h3 j hj Ge).new k,h4⟩
theorem QHb.set{w:World}{b1 b2 b:Nat}{t:TypeId}{v:Value}{T:List Qba}{cs:Array Value}(h:QHb w b1 b2 v T)(hH:Holds w b cs t)(Hl:t≠46)(kM:t≠49)(o:Nat)(x:Value):QHb (w.setCell ⟨b,o,none⟩ x) b1 b2 v T:=by
 obtain⟨pvs,h1,h2,h3,h4⟩:=h;exact⟨pvs,h1,Qvc h2 hH Hl o x,fun j hj Ge=>(h3 j hj Ge).set hH kM o x,h4⟩
theorem QHb.more{w w':World}{b1 b2:Nat}{v v' pv:Value}{T:List Qba}{pvs:List Value}{n:Qba}(h1:pvs.length=T.length)(h2:w.ownsRow b1 46 3 v T.length (Qpa T pvs))
 (h3:∀k (_:k<T.length) (_:k<pvs.length),Qna w b2 pvs[k] T[k].props) (h4:∀n∈T,Qcc n) (hp:Qna w b2 pv n.props) (hn:Qcc n)
 (Hi:w'.ownsRow b1 46 3 v' (T.length+1) (Qpa T pvs++[.int .i64 n.parent,.string n.name,pv])) (hg:w.grownBy w' v.ownBlock):QHb w' b1 b2 v' (T++[n]):=by
 refine⟨pvs++[pv],by simp[h1],?_,?_,?_⟩
 ·rw[Qdc T pvs n pv h1,List.length_append];exact Hi
 ·intro k hk kW;by_cases e:k<T.length
  ·have:Qna w' b2 pvs[k] T[k].props:=(h3 k e (by omega)).apart h2 hg (by decide);simpa[List.getElem_append_left,e,h1]using this
  have e2:k=T.length:=by simp at hk;omega
  subst e2;have:Qna w' b2 pv n.props:=hp.apart h2 hg (by decide);simpa[List.getElem_append_right,h1]using this
 intro m hm;rcases List.mem_append.1 hm with hm|hm
 ·exact h4 m hm
 simp at hm;subst hm;exact hn
theorem QHb.nil(w:World)(b1 b2:Nat):QHb w b1 b2 (.slice none 0 0) []:=⟨[],rfl,World.ownsRow_nil _ _ _ _,fun k h=>absurd h (Nat.not_lt_zero k),fun _ h=>by cases h⟩
def QWs(L:List Qba)(base OB:Nat)(w2:World)(f:Nat)(x:Value)(wr:World):Prop:=
 ∃(i:Nat) (v:Value),x=.int .i64 i∧i≤L.length∧L.length≤i+f∧QHb wr w2.heap.size base v ((Qta L).take i)∧Holds wr OB #[v] 27∧Below w2.heap.size w2 wr
theorem Qda.at{w:World}{base g n cap:Nat}{T:List Qba}(h:Qda w base (.slice (some ⟨g,0,none⟩) n cap) T)(k:Nat)(hk:k<T.length) :
 ∃pv pa pc,pv=.slice pa T[k].props.length pc∧w.cell? ⟨g,k*3,none⟩=some (.int .i64 T[k].parent)∧w.cell? ⟨g,k*3+1,none⟩=some (.string T[k].name)∧w.cell? ⟨g,k*3+2,none⟩=some pv∧Qna w base pv T[k].props∧Qcc T[k]:=by
 obtain⟨pvs,h1,h2,h3,h4⟩:=h;have hn:n=T.length:=by
  rcases h2.2 with⟨e,_⟩|⟨_,_,_,e,_⟩
  ·cases e
  cases e;rfl
 subst hn;obtain⟨a0,a1,a2⟩:=Qmc T pvs k hk (by omega) h1;have hp:=h3 k hk (by omega);obtain⟨pa,pc,Kf⟩:=Qea hp.1;exact⟨_,pa,pc,Kf,(h2.cellAt _ (by omega)).trans a0,(h2.cellAt _ (by omega)).trans a1,(h2.cellAt _ (by omega)).trans a2,hp,h4 _ (List.getElem_mem hk)⟩
theorem Qda.keeps{S:Nat→Prop}{w w':World}{base:Nat}{v:Value}{T:List Qba}(h:Qda w base v T)(k:Qaa S w w')(hs:∀g,S g→w.heap.size≤g∨∃cs t,Holds w g cs t∧t≠46∧t≠49):Qda w' base v T:=by
 obtain⟨pvs,h1,h2,h3,h4⟩:=h;have key:∀{e:TypeId} {size:Nat} {v:Value} {n:Nat} {xs:List Value},w.ownsRow base e size v n xs→e=46∨e=49→w'.ownsRow base e size v n xs:=by
  intro e size v n xs ho he;refine Qca ho k (fun g hg gE=>?_);rcases hs g gE with h|⟨cs,t,hH,n1,n2⟩
  ·have:=(ho.lt g hg).2;omega
  refine Qla ho hH ?_ hg;rcases he with rfl|rfl
  ·exact n1
  exact n2
 exact⟨pvs,h1,key h2 (.inl rfl),fun j hj Ge=>⟨key (h3 j hj Ge).1 (.inr rfl),(h3 j hj Ge).2⟩,h4⟩
def QVs(L:List Qba)(k Nd:Nat)(pv:Value)(wr:World)(y:Value)(wx:World):Prop:=
 y=.pointer (some ⟨Nd,0,none⟩)∧Holds wx Nd #[.int .i64 (Q6b L k).parent,.string (Q6b L k).name,pv] 46∧Below wr.heap.size wr wx
theorem Qom(base:Nat)(v:Value)(L:List Qba)(w:World)(hT:Qda w base v L)(Gv:Par L)(hl0:0<L.length)(hl:L.length≤120)(gx:base≤w.heap.size) :
 Calls prog 104 #[.agg #[v]] w fun e w'=>∃v',e=.returned (.agg #[v'])∧Qda w' base v' (Qta L)∧Below w.heap.size w w':=by
 obtain⟨lg,lc,rfl,uS⟩:∃lg lc,v=.slice (some ⟨lg,0,none⟩) L.length lc∧lg<w.heap.size:=by
  obtain⟨_,_,g2,_⟩:=hT;obtain⟨g,c,e,_,h2⟩:=g2.form hl0;exact⟨g,c,e,h2⟩
 have HT:=hid hT;have Ms:=fun wx hx=>Qal (fun g=>base≤g) (.slice (some ⟨lg,0,none⟩) L.length lc) L Gv hl L.length 0 wx hx hl0 (by omega);unfold Qbh at Ms;simp only[Nat.sub_zero]at Ms;have KG:=QYc Gv hl0;rw[show QZa L L.length 0=Qgb L from rfl,show((0:Nat):Int)=0 from rfl,KG]at Ms;have cC:=hid Ms;have fo:=hid KG;have Mz:=hid Gv;obtain⟨aV,Hf⟩:=Qec Gv hl0;have kO:=hid aV;have zi:=hid (QMc Hf);clear hT Ms KG Gv aV Hf;have bR:=QMk L.length (by omega);go_enter func104,ntmps104;go_wp2_with fail;refine(cC.o _ (by exact(HT.o.new ((Bq).alloc (by simp) _)).in)).mono ?_;rintro e w1 ⟨rv,rfl,Hi,Hb⟩;have Hr:=((Holds.new w #[.slice (some ⟨lg,0,none⟩) L.length lc] 27).alloc (.cells #[.slice none 0 0] 27)).fr Hb;have Hm:=(Holds.newAt (w:=w.alloc (.cells #[.slice (some ⟨lg,0,none⟩) L.length lc] 27)) (B:=w.heap.size+1) (by simp) #[.slice none 0 0] 27).fr Hb;have Hc:Below w.heap.size w w1:=((Bq).alloc (by simp) _).trans (Hb.mono (by simp;omega));have GU:=HT.o.new Hc;obtain⟨og,oc,rfl,pI,vi⟩:=Hi.form hl0;simp only[World.size_alloc]at pI;have Gn:=Hb.size;simp only[World.size_alloc]at Gn;have x0:=Hr.cell 0;have xl:=Hr.lt;clear Hb cC;go_wp2_with fail;clear bR x0 xl;have xe:=Holds.new w1 (Qud (List.replicate L.length 0)) 3;have dE:Qud (List.replicate L.length 0)=Array.replicate L.length (.int .i64 0):=by simp[Qud,Qra]
 go_loopg [19] (L.length) (fun f x wr=>Qtu L w1.heap.size (w1.alloc (.cells (Array.replicate L.length (.int .i64 0)) 3)) f x wr)
 case atStart=>exact⟨0,List.replicate L.length 0,rfl,by omega,by omega,by simp,fun q hq=>absurd hq (Nat.not_lt_zero q),by rw[←dE];exact xe,Qaa.refl _ _⟩
 case round=>
  obtain⟨i,l,rfl,hi,hf,M8,yk,hA,hK⟩:=hrel;clear xe dE;have sj:=hid yk;clear yk;by_cases Hh:i<L.length
  ·have mS:i<(Qgb L).length:=by rw[fo.o];exact Hh
   have hk:=(kO.o _).1 (List.getElem_mem mS);have Ji:=(hK.cell (p:=⟨og,i,none⟩) (by simp;omega) (by show ¬og=w1.heap.size;omega)).trans ((Hi.alloc _).cellAt i (by omega));rw[show(Qra (Qgb L))[i]? = some (.int .i64 ((Qgb L)[i]:Int))from by simp[Qra,mS]]at Ji;have Hl:=hid (fun(q:Nat) (hq:q<i) (ru:q<(Qgb L).length) (e:(Qgb L)[q]=(Qgb L)[i])=>by
    have:=(List.getElem_inj zi.o).1 e;omega:∀(q:Nat) (hq:q<i) (ru:q<(Qgb L).length),(Qgb L)[q]=(Qgb L)[i]→False)
   have K0:∀(q:Nat) (_:q<i+1) (hq:q<(Qgb L).length),(l.set (Qgb L)[i] i).getD (Qgb L)[q] 0=q:=by
    intro q hq ru;rw[QQr _ _ _ _ (by omega)];by_cases e:q=i
    ·subst e;rw[if_pos rfl]
    rw[if_neg (fun x=>Hl.o q (by omega) ru x.symm)];exact sj.o q (by omega) ru
   have ss:=hid K0;clear K0 Hl;have a0:∃x:Int,wr.cell? ⟨w1.heap.size,(Qgb L)[i],none⟩=some (.int .i64 x):=⟨_,(hA.cell _).trans (QUh l _ (by omega))⟩;have af:=hA.free ((Qgb L)[i]);have al:=hA.lt;have GF:=hA.set (Qgb L)[i] (.int .i64 (i:Int));rw[Q0i]at GF;generalize(Qgb L)[i]=c at *
   obtain⟨a1,a0⟩:=a0;clear mS;go_wp2_with fail;go_roundg (gk-1)
   case measure=>omega
   case rel=>exact⟨i+1,l.set c i,by go_num,by omega,by omega,by simpa using M8,ss.o,GF,hK.setCell (p:=⟨w1.heap.size,c,none⟩) (.inr rfl) _⟩
  have oX:=hid (show ∀(q:Nat) (hq:q<(Qgb L).length),l.getD (Qgb L)[q] 0=q from fun q hq=>sj.o q (by have:=fo.o;omega) hq);clear sj hi hf;have gw:=(Hr.alloc (.cells (Array.replicate L.length (.int .i64 0)) 3)).keeps hK (by have:=Hr.lt;omega);have Hx:=(Hm.alloc (.cells (Array.replicate L.length (.int .i64 0)) 3)).keeps hK (by have:=Hm.lt;omega);have H7:=Qca (World.ownsRow.alloc Hi (.cells (Array.replicate L.length (.int .i64 0)) 3)) hK (fun g hg e=>by have e2:og=g:=Option.some.inj hg;omega);have g8:Qda wr base (.slice (some ⟨lg,0,none⟩) L.length lc) L:=(GU.new (Bq)).keeps hK (fun g e=>by
   subst e;exact .inr ⟨_,_,Holds.new w1 (Array.replicate L.length (.int .i64 0)) 3,by decide,by decide⟩)
  have Hg:Below w.heap.size w wr:=(Hc.alloc Hc.size _).trans (hK.below (by simp;omega) (fun i hi e=>by have:=Hc.size;omega));clear Hr Hm Hi GU Hc hK;obtain⟨w2,rfl⟩:∃x:World,x=wr:=⟨_,rfl⟩;have lL:=Hg.size;have GX:=Holds.new w2 #[.slice none 0 0] 27;have vj:=(H7.lt og rfl).2;have GP:=hA.lt;have GA:=gw.lt;have gf:=Hx.lt;go_wp2_with fail;go_loopg [31] (L.length) (fun f x wr=>QWs L base w2.heap.size w2 f x wr)
  case atStart=>exact⟨0,_,rfl,by omega,by omega,by exact QHb.nil _ _ _,GX,Bq⟩
  case round=>
   obtain⟨go,rfl⟩:∃x:Nat,x=gk:=⟨_,rfl⟩;obtain⟨i,v,rfl,hi,hf,hR,hO,hb⟩:=hrel;clear GX;have Hy:=hb.size;by_cases Hh:i<L.length
   ·have mS:i<(Qgb L).length:=by rw[fo.o];exact Hh
    have hk:=(kO.o _).1 (List.getElem_mem mS);have Ji:=(hb.cell (p:=⟨og,i,none⟩) vj).trans (H7.cellAt i (by omega));rw[show(Qra (Qgb L))[i]? = some (.int .i64 ((Qgb L)[i]:Int))from by simp[Qra,mS]]at Ji;have mP:=hid (show(Qta L).take (i+1)=(Qta L).take i++[Q6b L (Qgb L)[i]]from by
     have h2:i<(Qta L).length:=by simp[Qta];exact mS
     rw[List.take_succ_eq_append_getElem h2];simp[Qta])
    have Jg:=hid (show((Qta L).take i).length=i from by simp[Qta];omega);generalize(Qta L).take i=T0 at *
    generalize(Qgb L)[i]=k at *
    clear mS;obtain⟨_,pa,pc,rfl,c0,c1,c2,hp,kr⟩:=(g8.new hb).at k hk;have JM:=(gw.fr hb);have bx:=JM.cell 0;have blt:=JM.lt;have hlg2:lg<wr.heap.size:=by omega
    have HP:=hid hp;have kt:=hid kr;have bR:(Q6b L k).name=L[k].name∧(Q6b L k).props=L[k].props:=⟨QHa hk,Qfb hk⟩;have Ju:=hid bR;clear hp kr bR;have Kh:=Holds.new wr #[.int .i64 L[k].parent,.string L[k].name,.slice pa L[k].props.length pc] 46;have He:Below wr.heap.size wr (wr.alloc (.cells #[.int .i64 L[k].parent,.string L[k].name,.slice pa L[k].props.length pc] 46)):=Bq
    go_upto_if 41 with fail
    go_cut [10] (fun y wx=>QVs L k wr.heap.size (.slice pa L[k].props.length pc) wr y wx)
    case first=>
     have n0:=Kh.cell 0;have nf:=Kh.free 0;have nl:=Kh.lt;by_cases GN:k=0
     ·have Ga:¬(0:Int)<(k:Int):=by omega
      have uX:=hid (show(Q6b L k).parent=L[k].parent from by
       unfold Q6b;simp only;rw[if_pos GN];subst GN;exact Qxa hk)
      clear GN;go_wp2_with fail;go_meet;exact⟨rfl,by rw[uX.o,Ju.o.1];exact Kh,He⟩
     have Ga:(0:Int)<(k:Int):=by omega
     have gz:=Qib Mz.o (by omega:0<k) hk;obtain⟨pO,MM⟩:=gz;rw[Qxa hk]at MM;have pP:=(kO.o (QGb L k)).2 (by omega);obtain⟨aY,GC⟩:=QEj pP;have rk:=oX.o _ aY;rw[GC]at rk;have uX:=hid (show(Q6b L k).parent=(((Qgb L).idxOf (QGb L k):Nat):Int)from by unfold Q6b;simp only;rw[if_neg GN]);have a0:wr.cell? ⟨w1.heap.size,QGb L k,none⟩=some (.int .i64 (((Qgb L).idxOf (QGb L k):Nat):Int)):=by
      refine(hb.cell (p:=⟨w1.heap.size,QGb L k,none⟩) GP).trans ((hA.cell _).trans ?_);rw[QUh l _ (by omega)];rw[List.getD_eq_getElem?_getD,List.getElem?_eq_getElem (by omega)]at rk;rw[←rk];rfl
     have kP:w1.heap.size<wr.heap.size:=by omega
     have hidl:(Qgb L).idxOf (QGb L k)<L.length:=by have:=fo.o;omega
     clear GN pP aY GC rk;generalize(Qgb L).idxOf (QGb L k)=ix at *
     have nr:=hid MM;have rs:L[k].parent=((QGb L k:Nat):Int):=MM.symm;clear MM;generalize QGb L k=pk at *
     rw[rs]at *
     clear rs;go_wp2_with fail;go_meet;exact⟨rfl,by rw[uX.o,Ju.o.1];exact Holds.new wr _ _,Bq⟩
    case rest=>
     obtain⟨rfl,hN,Hu⟩:=hcut;clear Kh He bx blt JM c0 c1 c2 Ji;have KX:=hO.fr Hu;have H5:=hb.trans (Hu.mono Hy);have dG:=H5.size;have ou:Qna wc base (.slice pa L[k].props.length pc) (Q6b L k).props:=by rw[Ju.o.2];exact HP.o.new Hu
     have pJ:Qcc (Q6b L k):=by
      refine⟨by rw[Ju.o.1];exact kt.o.1,?_,?_⟩
      ·unfold Q6b;simp only;split
       ·rename_i h;subst h;rw[Qxa hk];exact kt.o.2.1
       omega
      unfold Q6b;simp only;split
      ·rename_i h;subst h;rw[Qxa hk];exact kt.o.2.2
      have h1:(Qgb L).idxOf (QGb L k)≤(Qgb L).length:=List.idxOf_le_length;have h2:=fo.o;omega
     obtain⟨pvs,g1,g2,g3,g4⟩:=hR.new Hu;have G3:=hid g3;have G4:=hid g4;have G1:=hid g1;have zq:=hid ou;have sA:=hid pJ;have tU:=Jg.o;have e1:T0.length+1≤maxLen:=by unfold maxLen;omega
     have e2:(T0.length+1)*48≤140737488355328:=by omega
     clear g3 g4 g1 hR hO tU ou pJ;obtain⟨xa,xc,rfl⟩:=Qea g2;have x0:=KX.cell 0;have xl:=KX.lt;have m0:=hN.cell 0;have m1:=hN.cell 1;have m2:=hN.cell 2;have ml:=hN.lt;generalize hmt:Q6b L k=nd at *
     have HMT:=hid hmt;clear hmt;obtain⟨i0,Jm,Hz,Ho,H4⟩:=info_parts QRg;go_wp2_with(at_builtin;refine wpList_append_own _ rfl _ _ 25 rfl w2.heap.size 46 i0 (.agg #[.int .i64 0,.string ⟨#[]⟩,.slice none 0 0]) 3 48 underlying25 Jm Hz Ho H4 rfl (by decide) _ T0.length (Qpa T0 pvs) rfl (by exact World.ownsRow.alloc g2 _) ⟨wc.heap.size,0,none⟩ 1 1 [.int .i64 nd.parent,.string nd.name,.slice pa L[k].props.length pc] rfl rfl ?d1 ?d2 ?d3 ?d4 ?d5 ?_)
     case d1=>exact Q8a _ _ _ _ rfl _ rfl
     case d2=>
      intro u hu;simp at hu;rcases hu with rfl|rfl|rfl <;> rfl
     case d3=>exact e1
     case d4=>exact e2
     case d5=>simp;omega
     intro v' w6 Hj Hd _;have Kt:=(KX.alloc (.cells #[.int .i64 nd.parent,.string nd.name,.slice pa L[k].props.length pc] 46)).grown Hd (Qla g2 KX (by decide));have gn:=(H5.alloc dG (.cells #[.int .i64 nd.parent,.string nd.name,.slice pa L[k].props.length pc] 46)).grown Hd (by simp;omega) (fun g hg=>(g2.lt g hg).1);have ma:Below wc.heap.size wc (wc.alloc (.cells #[.int .i64 nd.parent,.string nd.name,.slice pa L[k].props.length pc] 46)):=Bq;have kT:QHb w6 w2.heap.size base v' (T0++[nd]):=QHb.more G1.o (World.ownsRow.alloc g2 _) (fun q hq KI=>(G3.o q hq KI).new ma) G4.o (zq.o.new ma) sA.o Hj Hd;obtain⟨va,vc,rfl⟩:=Qea Hj;clear Hd Hj x0 xl m0 m1 m2 ml;have x0:=Kt.cell 0;have xf:=Kt.free 0;have xl:=Kt.lt;go_wp2_with fail;go_roundg (go-1)
     case measure=>omega
     case rel=>exact⟨i+1,_,by go_num,by omega,by omega,by rw[mP.o];exact kT.set Kt (by decide) (by decide) 0 _,Kt.set 0 _,gn.setCell (p:=⟨w2.heap.size,0,none⟩) (Nat.le_refl _) _⟩
   have jv:(Qta L).take i=Qta L:=List.take_of_length_le (by simp[Qta];have:=fo.o;omega);rw[jv]at hR;have qd:(Qta L).length=L.length:=by simp[Qta];exact fo.o
   have gN:=Hx.fr hb;have x0:=hO.cell 0;have xl:=hO.lt;have zl:=gN.lt;have z0:=gN.cell 0;have zf:=gN.free 0;have kZ:Qda wr base v (Qta L):=hR.one (by omega);have Jf:=kZ.set gN (by decide) (by decide) 0 v;have Gd:=(Hg.trans (hb.mono lL)).setCell (p:=⟨w.heap.size+1,0,none⟩) (by simp) v;obtain⟨va,vc,hv⟩:∃va vc,v=.slice va L.length vc:=by obtain⟨_,_,g2,_⟩:=hR;rw[qd]at g2;exact Qea g2
   subst hv;clear jv qd;go_wp2_with fail;have q0:(wr.setCell ⟨w.heap.size+1,0,none⟩ (.slice va L.length vc)).cell? ⟨w.heap.size+1,0,none⟩=some (.slice va L.length vc):=(gN.set 0 _).cell 0;exact bodyPost_ret (v:=.agg #[.slice va L.length vc]) (by simp[results,Tryz.results104,go_sem,q0]) rfl ⟨_,rfl,Jf,Gd⟩
def Qgc(E:List Qba × Int)(w:World)(e:Ending)(w':World):Prop:=∃v,e=.returned (.tuple #[.agg #[v],.int .i64 E.2])∧Qda w' w.heap.size v E.1∧Below w.heap.size w w'
theorem Q4b{T:List Qba}(h:Qia T=0):∀n∈T,n.props.length≤1000:=by
 intro n hn;obtain⟨k,hk,rfl⟩:=List.mem_iff_getElem.1 hn;have h2:=QQa h;unfold Qza at h2;rw[Bool.and_eq_true,List.all_eq_true]at h2;have:=h2.2 _ hn;rw[QIh,Bool.and_eq_true,decide_eq_true_iff]at this;omega
theorem Qgn(R:Nat→Prop)(v:Value)(T:List Qba)(s name:ByteArray)(w:World)(hT:Qoa R w v T)(ko:name.size≤9223372036854775807) :
 Calls prog 62 #[.agg #[v],.string s,.string name] w (Qgc (QQc T s name) w):=by
 obtain⟨a,cap,rfl,gy,gh⟩:=hT.shape;have HT:=hid hT;clear hT;have Gr:=fun wx hx=>Qxg R (.slice a T.length cap) T s wx hx;have He:Below w.heap.size w ((w.alloc (.cells #[.slice a T.length cap] 27)).alloc (.cells #[.slice none 0 0] 27)):=(Bq).alloc (by simp) _;have Gb:=(Holds.new w #[.slice a T.length cap] 27).alloc (.cells #[.slice none 0 0] 27);have gX:=Holds.newAt (w:=w.alloc (.cells #[.slice a T.length cap] 27)) (B:=w.heap.size+1) (by simp) #[.slice none 0 0] 27;rcases Qkb T s with⟨Hl,gR⟩|⟨gd,k,hk,G0,Gt⟩
 ·have hE:=hid (show QQc T s name=([],(Qua T s).2)from by unfold QQc;rw[if_pos Hl]);have aT:((Qua T s).2 != 0)=true:=by simpa using Hl
  rw[gR]at Gr;have kK:=hid Gr;clear Gr Hl gR;generalize(Qua T s).2=c at *
  go_enter func62,ntmps62;go_wp2_with fail;refine(kK.o _ (by exact HT.o.new He)).mono ?_;rintro e w1 ⟨rfl,Hb⟩;have Hm:=gX.fr Hb;have Hc:=He.trans (Hb.mono (by simp;omega));have z0:=Hm.cell 0;have zf:=Hm.free 0;have zl:=Hm.lt;go_wp2_with fail;have q0:(w1.setCell ⟨w.heap.size+1,0,none⟩ (.slice none 0 0)).cell? ⟨w.heap.size+1,0,none⟩=some (.slice none 0 0):=(Hm.set 0 _).cell 0;exact bodyPost_ret (v:=.tuple #[.agg #[.slice none 0 0],.int .i64 c]) (by simp[results,Tryz.results62,go_sem,q0]) rfl ⟨_,by rw[hE.o],by rw[hE.o];exact Qda.nil _ _,Hc.setCell (p:=⟨w.heap.size+1,0,none⟩) (by simp) _⟩
 rw[G0]at Gr;have kK:=hid Gr;have hE:=hid (show QQc T s name=if QTa name.data.toList=false then([],1)else if T.any (QRa (k:Int) name)=true then([],5)else if 8≤Q8b T T.length (k:Int)then([],2)else if 120≤T.length then([],3)else(Qta (T++[⟨(k:Int),name,[]⟩]),0)from by
  unfold QQc;rw[G0,if_neg (by simp)])
 have Mp:=Qlb (QQa gd);have Ht:=Q3b gd;have j4:=hid (Q4b gd);obtain⟨GO,gS⟩:=Mp;have bQ:=hid (fun wx hx=>Q5i R (.slice a T.length cap) T k wx hx Ht (by omega) (by omega) (by omega));have Mz:=hid (QBa Ht);have kh:=fun wx=>Qxd name wx (by unfold maxLen;omega);clear Gr G0 gd Ht;cases Kc:QTa name.data.toList with
 | false=>
  have hF:=hid (show QQc T s name=([],1)from by rw[hE.o,if_pos Kc]);rw[Kc]at kh;have mr:=hid kh;clear kh Kc hE;go_enter func62,ntmps62;go_wp2_with fail;refine(kK.o _ (by exact HT.o.new He)).mono ?_;rintro e w1 ⟨rfl,Hb⟩;have Hm:=gX.fr Hb;have Hc:=He.trans (Hb.mono (by simp;omega));go_wp2_with fail;refine(mr.o _).mono ?_;rintro e w2 ⟨rfl,rfl⟩;have z0:=Hm.cell 0;have zf:=Hm.free 0;have zl:=Hm.lt;go_wp2_with fail;have q0:(w1.setCell ⟨w.heap.size+1,0,none⟩ (.slice none 0 0)).cell? ⟨w.heap.size+1,0,none⟩=some (.slice none 0 0):=(Hm.set 0 _).cell 0;exact bodyPost_ret (v:=.tuple #[.agg #[.slice none 0 0],.int .i64 1]) (by simp[results,Tryz.results62,go_sem,q0]) rfl ⟨_,by rw[hF.o],by rw[hF.o];exact Qda.nil _ _,Hc.setCell (p:=⟨w.heap.size+1,0,none⟩) (by simp) _⟩
 | true=>
  rw[Kc]at kh;have mr:=hid kh;have Ks:=hid (show QQc T s name=if T.any (QRa (k:Int) name)=true then([],5)else if 8≤Q8b T T.length (k:Int)then([],2)else if 120≤T.length then([],3)else(Qta (T++[⟨(k:Int),name,[]⟩]),0)from by rw[hE.o,Kc,if_neg (by simp)]);clear kh Kc hE;go_enter func62,ntmps62;go_wp2_with fail;refine(kK.o _ (by exact HT.o.new He)).mono ?_;rintro e w1 ⟨rfl,Hb⟩;have Hm:=gX.fr Hb;have Hr:=Gb.fr Hb;have Hc:=He.trans (Hb.mono (by simp;omega));have bx:=Hr.cell 0;have bl:=Hr.lt;clear He Gb gX Hb;go_wp2_with fail;refine(mr.o _).mono ?_;rintro e w2 ⟨rfl,rfl⟩;go_wp2_with fail;go_loopg [30] (T.length) (fun f x wr=>∃i:Nat,x=.int .i64 i∧i≤T.length∧T.length≤i+f∧Hid (T.any (QRa (k:Int) name)=(T.drop i).any (QRa (k:Int) name))∧Holds wr w.heap.size #[.slice a T.length cap] 27∧Holds wr (w.heap.size+1) #[.slice none 0 0] 27∧Below w.heap.size w wr)
  case atStart=>exact⟨0,rfl,by omega,by omega,by simp[Hid],Hr,Hm,Hc⟩
  case round=>
   clear bx bl;obtain⟨i,rfl,hi,hf,hA,hX,hZ,hb⟩:=hrel;have Hy:=hb.size;have bx:=hX.cell 0;have bl:=hX.lt;by_cases Hh:i<T.length
   ·obtain⟨g,o,pa,pc,rfl,hg,c0,c1,c2,hp,p1,p2,b0,b1,b2⟩:=(HT.o.new hb).at i Hh;have Hk:=hid (show(T.drop i).any (QRa (k:Int) name)=(QRa (k:Int) name T[i]||(T.drop (i+1)).any (QRa (k:Int) name))from by rw[List.drop_eq_getElem_cons Hh];rfl);clear hp;by_cases GC:T[i].parent=(k:Int)
    ·have iy:(T[i].parent==(k:Int))=true:=by simp[GC]
     cases Hl:(T[i].name.toList==name.toList)with
     | true=>
      have hF:=hid (show QQc T s name=([],5)from by
       rw[Ks.o,if_pos];rw[hA.o,Hk.o];have:QRa (k:Int) name T[i]=true:=by unfold QRa;rw[decide_eq_true GC,Bool.true_and];exact Hl
       rw[this];rfl)
      have mR:=hb.alloc Hy (.cells #[.int .i64 T[i].parent,.string T[i].name,.slice pa T[i].props.length pc] 46);have fW:=hZ.alloc (.cells #[.int .i64 T[i].parent,.string T[i].name,.slice pa T[i].props.length pc] 46);clear GC;have z0:=fW.cell 0;have zf:=fW.free 0;have zl:=fW.lt;go_wp2_with fail;have q0:((wr.alloc (.cells #[.int .i64 T[i].parent,.string T[i].name,.slice pa T[i].props.length pc] 46)).setCell ⟨w.heap.size+1,0,none⟩ (.slice none 0 0)).cell? ⟨w.heap.size+1,0,none⟩=some (.slice none 0 0):=(fW.set 0 _).cell 0;exact bodyPost_ret (v:=.tuple #[.agg #[.slice none 0 0],.int .i64 5]) (by simp[results,Tryz.results62,go_sem,q0]) rfl ⟨_,by rw[hF.o],by rw[hF.o];exact Qda.nil _ _,mR.setCell (p:=⟨w.heap.size+1,0,none⟩) (by simp) _⟩
     | false=>
      have GF:=hid (show T.any (QRa (k:Int) name)=(T.drop (i+1)).any (QRa (k:Int) name)from by
       rw[hA.o,Hk.o];have:QRa (k:Int) name T[i]=false:=by unfold QRa;rw[show eqS T[i].name name=false from Hl,Bool.and_false]
       rw[this,Bool.false_or])
      clear GC;go_wp2_with fail;go_roundg (gk-1)
      case measure=>omega
      case rel=>exact⟨i+1,by go_num,by omega,by omega,GF,hX.alloc _,hZ.alloc _,hb.alloc Hy _⟩
    have iy:(T[i].parent==(k:Int))=false:=by simpa using GC
    have GF:=hid (show T.any (QRa (k:Int) name)=(T.drop (i+1)).any (QRa (k:Int) name)from by
     rw[hA.o,Hk.o];have:QRa (k:Int) name T[i]=false:=by unfold QRa;rw[decide_eq_false GC,Bool.false_and]
     rw[this,Bool.false_or])
    clear GC;go_wp2_with fail;go_roundg (gk-1)
    case measure=>omega
    case rel=>exact⟨i+1,by go_num,by omega,by omega,GF,hX.alloc _,hZ.alloc _,hb.alloc Hy _⟩
   have eb:=hid (show QQc T s name=if 8≤Q8b T T.length (k:Int)then([],2)else if 120≤T.length then([],3)else(Qta (T++[⟨(k:Int),name,[]⟩]),0)from by
    rw[Ks.o,if_neg];rw[hA.o,List.drop_eq_nil_of_le (by omega)];simp)
   clear hA Hr Hm Hc;by_cases h8:8≤Q8b T T.length (k:Int)
   ·have hF:=hid (show QQc T s name=([],2)from by rw[eb.o,if_pos h8]);clear Ks eb;go_wp2_with fail;refine(bQ.o _ (by exact HT.o.new hb)).mono ?_;rintro e w3 ⟨rfl,Hg⟩;have gf:=hZ.fr Hg;have Hu:=hb.trans (Hg.mono Hy);have z0:=gf.cell 0;have zf:=gf.free 0;have zl:=gf.lt;go_wp2_with fail;have q0:(w3.setCell ⟨w.heap.size+1,0,none⟩ (.slice none 0 0)).cell? ⟨w.heap.size+1,0,none⟩=some (.slice none 0 0):=(gf.set 0 _).cell 0;exact bodyPost_ret (v:=.tuple #[.agg #[.slice none 0 0],.int .i64 2]) (by simp[results,Tryz.results62,go_sem,q0]) rfl ⟨_,by rw[hF.o],by rw[hF.o];exact Qda.nil _ _,Hu.setCell (p:=⟨w.heap.size+1,0,none⟩) (by simp) _⟩
   by_cases h120:120≤T.length
   ·have hF:=hid (show QQc T s name=([],3)from by rw[eb.o,if_neg h8,if_pos h120]);have h8':Q8b T T.length (k:Int)<8:=by omega
    clear Ks eb h8;go_wp2_with fail;refine(bQ.o _ (by exact HT.o.new hb)).mono ?_;rintro e w3 ⟨rfl,Hg⟩;have gf:=hZ.fr Hg;have GA:=hX.fr Hg;have Hu:=hb.trans (Hg.mono Hy);clear bx bl;have bx:=GA.cell 0;have bl:=GA.lt;have z0:=gf.cell 0;have zf:=gf.free 0;have zl:=gf.lt;go_wp2_with fail;have q0:(w3.setCell ⟨w.heap.size+1,0,none⟩ (.slice none 0 0)).cell? ⟨w.heap.size+1,0,none⟩=some (.slice none 0 0):=(gf.set 0 _).cell 0;exact bodyPost_ret (v:=.tuple #[.agg #[.slice none 0 0],.int .i64 3]) (by simp[results,Tryz.results62,go_sem,q0]) rfl ⟨_,by rw[hF.o],by rw[hF.o];exact Qda.nil _ _,Hu.setCell (p:=⟨w.heap.size+1,0,none⟩) (by simp) _⟩
   have hF:=hid (show QQc T s name=(Qta (T++[⟨(k:Int),name,[]⟩]),0)from by rw[eb.o,if_neg h8,if_neg h120]);have h8':Q8b T T.length (k:Int)<8:=by omega
   have jD:T.length<120:=by omega
   have kU:=hid (fun wx hx=>QGf R (.slice a T.length cap) T wx hx gS j4.o);clear Ks eb h8 h120;go_wp2_with fail;refine(bQ.o _ (by exact HT.o.new hb)).mono ?_;rintro e w3 ⟨rfl,Hg⟩;have gf:=hZ.fr Hg;have GA:=hX.fr Hg;have Hu:=hb.trans (Hg.mono Hy);clear bx bl Hg hX hZ hb Hy;have bx:=GA.cell 0;have bl:=GA.lt;go_wp2_with fail;refine(kU.o _ (by exact HT.o.new Hu)).mono ?_;rintro e w4 ⟨cv,rfl,JD,H5⟩;have GY:=gf.fr H5;have MP:=Hu.size;have gn:=Hu.trans (H5.mono MP);have bX:=gn.size;have dJ:=GY.lt;have k7:=JD.base MP;clear H5 Hu GA gf bx bl JD;obtain⟨va,vc,Mf⟩:∃va vc,cv=.slice va T.length vc:=by obtain⟨_,_,g2,_⟩:=k7;exact Qea g2
   subst Mf;have nO:=Holds.new w4 #[.slice va T.length vc] 27;have kT:=k7.new ((Below.refl _ _).alloc (Nat.le_refl _) (.cells #[.slice va T.length vc] 27));obtain⟨pvs,g1,g2,g3,g4⟩:=kT;have gN:=GY.alloc (.cells #[.slice va T.length vc] 27);have Gd:=gn.alloc bX (.cells #[.slice va T.length vc] 27);have mn:=Gd.size;have G1:=hid g1;have G2:=hid g2;have G3:=hid g3;have G4:=hid g4;have e1:T.length+1≤maxLen:=by unfold maxLen;omega
   have e2:(T.length+1)*48≤140737488355328:=by omega
   clear g1 g2 g3 g4 k7 gn GY;obtain⟨i0,Jm,Hz,Ho,H4⟩:=info_parts QRg;go_wp2_with(at_builtin;refine wpList_append_own _ rfl _ _ 25 rfl w.heap.size 46 i0 (.agg #[.int .i64 0,.string ⟨#[]⟩,.slice none 0 0]) 3 48 underlying25 Jm Hz Ho H4 rfl (by decide) _ T.length (Qpa T pvs) rfl (by exact World.ownsRow.alloc G2.o _) ⟨w4.heap.size+1,0,none⟩ 1 1 [.int .i64 k,.string name,.slice none 0 0] rfl rfl ?d1 ?d2 ?d3 ?d4 ?d5 ?_)
   case d1=>exact Q8a _ _ _ _ (by simp) _ rfl
   case d2=>
    intro u hu;simp at hu;rcases hu with rfl|rfl|rfl <;> rfl
   case d3=>exact e1
   case d4=>exact e2
   case d5=>simp;omega
   intro v' w6 Hj Hd _;have ma:Below (w4.alloc (.cells #[.slice va T.length vc] 27)).heap.size (w4.alloc (.cells #[.slice va T.length vc] 27)) ((w4.alloc (.cells #[.slice va T.length vc] 27)).alloc (.cells #[.int .i64 k,.string name,.slice none 0 0] 46)):=Bq;have nP:=(nO.alloc (.cells #[.int .i64 k,.string name,.slice none 0 0] 46)).grown Hd (Qla G2.o nO (by decide));have JE:=(gN.alloc (.cells #[.int .i64 k,.string name,.slice none 0 0] 46)).grown Hd (Qla G2.o gN (by decide));have KB:=(Gd.alloc mn (.cells #[.int .i64 k,.string name,.slice none 0 0] 46)).grown Hd (by simp;omega) (fun g hg=>(G2.o.lt g hg).1);have M6:Qda w6 w.heap.size v' (T++[⟨(k:Int),name,[]⟩]):=Qda.more (n:=(⟨(k:Int),name,[]⟩:Qba)) G1.o (World.ownsRow.alloc G2.o _) (fun q hq KI=>(G3.o q hq KI).new ma) G4.o (Qna.nil _ _) ⟨ko,by show _≤(k:Int);omega,by show(k:Int)≤_;omega⟩ Hj Hd;obtain⟨va2,vc2,rfl⟩:=Qea Hj;have pP:=Qbn (n:=(⟨(k:Int),name,[]⟩:Qba)) Mz.o rfl hk;have hlen:(T++[(⟨(k:Int),name,[]⟩:Qba)]).length=T.length+1:=by simp
   have eu:=M6.set nP (by decide) (by decide) 0 (.slice va2 (T.length+1) vc2);have au:Holds (w6.setCell ⟨w4.heap.size,0,none⟩ (.slice va2 (T.length+1) vc2)) (w.heap.size+1) #[.slice none 0 0] 27:=JE.other _ _ (by show w.heap.size+1≠w4.heap.size;omega);have Gq:=KB.setCell (p:=⟨w4.heap.size,0,none⟩) bX (.slice va2 (T.length+1) vc2);have J5:=nP.set 0 (.slice va2 (T.length+1) vc2);have c0:=nP.cell 0;have cf:=nP.free 0;have cl:=nP.lt;have vG:=hid (fun wx hx G9=>Qom w.heap.size (.slice va2 (T.length+1) vc2) (T++[(⟨(k:Int),name,[]⟩:Qba)]) wx hx pP (by omega) (by omega) G9);clear pP M6 JE KB gN Gd mn ma Hd Hj nO;have iE:=Gq.size;go_wp2_with fail;refine(vG.o _ (by exact eu) (by exact iE)).mono ?_;rintro e w7 ⟨sv,rfl,qO,GZ⟩;have Me:=au.fr GZ;have mb:=Gq.trans (GZ.mono iE);have z0:=Me.cell 0;have zf:=Me.free 0;have zl:=Me.lt;have MF:=qO.set Me (by decide) (by decide) 0 sv;obtain⟨sa,sn,sc,AJ⟩:∃sa sn sc,sv=.slice sa sn sc:=by obtain⟨_,_,g2,_⟩:=qO;obtain⟨x,y,e⟩:=Qea g2;exact⟨_,_,_,e⟩
   subst AJ;clear hlen;go_wp2_with fail;have q0:(w7.setCell ⟨w.heap.size+1,0,none⟩ (.slice sa sn sc)).cell? ⟨w.heap.size+1,0,none⟩=some (.slice sa sn sc):=(Me.set 0 _).cell 0;exact bodyPost_ret (v:=.tuple #[.agg #[.slice sa sn sc],.int .i64 0]) (by simp[results,Tryz.results62,go_sem,q0]) rfl ⟨_,by rw[hF.o],by rw[hF.o];exact MF,mb.setCell (p:=⟨w.heap.size+1,0,none⟩) (by simp) _⟩
def QUo(ps:List Qqa)(q:Nat)(a:Option Addr)(w3:World)(y:Value)(wx:World):Prop:=
 ∃(ra:Option Addr) (rc:Nat) (n:Nat),y=.slice ra (ps.length-q) rc∧(q<ps.length→∃g o,a=some ⟨g,o,none⟩∧ra=some ⟨g,o+q*2,none⟩)∧w3.drewN n=wx
theorem Qnf:∀(ps:List Qqa) (k:Nat),Qfa (ps.take k)=(Qfa ps).take (k*2)
 | [],k=>by simp[Qfa]
 | p::ps,0=>by simp[Qfa]
 | p::ps,k+1=>by
  rw[show(k+1)*2=k*2+1+1 from by omega];simp only[List.take_succ_cons,Qfa];rw[Qnf ps k]
theorem Qlf:∀(ps:List Qqa) (k:Nat),Qfa (ps.drop k)=(Qfa ps).drop (k*2)
 | [],k=>by simp[Qfa]
 | p::ps,0=>by simp[Qfa]
 | p::ps,k+1=>by
  rw[show(k+1)*2=k*2+1+1 from by omega];simp only[List.drop_succ_cons,Qfa];rw[Qlf ps k]
theorem Qik{w:World}{g o:Nat}{ps:List Qqa}(h:∀j u,(Qfa ps)[j]? = some u→w.cell? ((⟨g,o,none⟩:Addr).add j)=some u)(k:Nat):∀j u,(Qfa (ps.take k))[j]? = some u→w.cell? ((⟨g,o,none⟩:Addr).add j)=some u:=by
 intro j u hu;rw[Qnf,List.getElem?_take]at hu;by_cases e:j<k*2
 ·rw[if_pos e]at hu;exact h j u hu
 rw[if_neg e]at hu;cases hu
theorem Qjk{w:World}{g o:Nat}{ps:List Qqa}(h:∀j u,(Qfa ps)[j]? = some u→w.cell? ((⟨g,o,none⟩:Addr).add j)=some u)(k:Nat):∀j u,(Qfa (ps.drop k))[j]? = some u→w.cell? ((⟨g,o+k*2,none⟩:Addr).add j)=some u:=by
 intro j u hu;rw[Qlf,List.getElem?_drop]at hu;have:=h _ u hu;rw[Addr.add_lit]at this ⊢;rw[show o+k*2+j=o+(k*2+j)from by omega];exact this
theorem Qgs(R:Nat→Prop)(v:Value)(ps:List Qqa)(p:Qqa)(w:World)(hP:QAa R w v ps)(hl:ps.length≤1000)(jS:Qod p) :
 Calls prog 66 #[v,.agg #[.string p.name,.string p.value]] w fun e w'=>∃rv,e=.returned rv∧Qna w' w.heap.size rv (QOc ps p)∧Below w.heap.size w w':=by
 obtain⟨a,cap,rfl,gy,gh⟩:=hP.shape;have HP:=hid hP;clear hP;have ft:=hid jS;clear jS;have kj:=Holds.new w #[.string p.name,.string p.value] 49;have He:Below w.heap.size w (w.alloc (.cells #[.string p.name,.string p.value] 49)):=Bq;have n0:=kj.cell 0;have n1:=kj.cell 1;have nl:=kj.lt;go_enter func66,ntmps66;go_upto_block 0 with fail;go_cut [5] (fun y wx=>∃n,y=.int .i64 (Qmb ps p.name)∧(w.alloc (.cells #[.string p.name,.string p.value] 49)).drewN n=wx)
 case first=>
  go_wp2_with fail;go_loopg [5] (ps.length) (fun f y wx=>∃(k n:Nat),y=.int .i64 k∧k≤ps.length∧ps.length≤k+f∧Hid (Qmb ps p.name=k+((ps.drop k).takeWhile (fun q=>ltS q.name p.name)).length)∧(w.alloc (.cells #[.string p.name,.string p.value] 49)).drewN n=wx)
  case atStart=>exact⟨0,0,rfl,by omega,by omega,by simp[Hid,Qmb],rfl⟩
  case round=>
   obtain⟨k,n,rfl,hk,hf,hS,rfl⟩:=hrel;by_cases Hh:k<ps.length
   ·obtain⟨g,o,rfl,hg,c0,c1,b0,b1⟩:=(HP.o.new He).at k Hh;have pb:(k:Int)<(ps.length:Int):=by omega
    have kJ:=hid (Q1r ps p.name k Hh);cases Hl:Op.bytesLess ps[k].name.toList p.name.toList with
    | true=>
     have HJ:=hid (show Qmb ps p.name=(k+1:Nat)+((ps.drop (k+1)).takeWhile (fun q=>ltS q.name p.name)).length from by
      rw[hS.o,kJ.o,if_pos (show ltS ps[k].name p.name=true from Hl)];simp;omega)
     go_wp2_with fail;go_quiet(fail);go_wp2_with fail;go_roundg (gk-1)
     case measure=>omega
     case rel=>exact⟨k+1,_,by go_num,by omega,by omega,HJ,rfl⟩
    | false=>
     have HJ:=hid (show Qmb ps p.name=k from by rw[hS.o,kJ.o,if_neg (by rw[show ltS ps[k].name p.name=false from Hl];simp)];rfl);go_wp2_with fail;go_quiet(fail);go_wp2_with fail;go_meet;exact⟨_,by rw[HJ.o],(Q6c _ _ _).symm⟩
   have hd:decide ((k:Int)<(ps.length:Int))=false:=by simp;omega
   have HJ:=hid (show Qmb ps p.name=k from by rw[hS.o,List.drop_eq_nil_of_le (by omega)];rfl);go_wp2_with fail;go_quiet(fail);go_wp2_with fail;go_meet;exact⟨_,by rw[HJ.o],(Q6c _ _ _).symm⟩
 case rest=>
  obtain⟨n,rfl,hw⟩:=hcut;obtain⟨w3,rfl⟩:∃x:World,x=wc:=⟨_,rfl⟩;have j8:Holds w3 w.heap.size #[.string p.name,.string p.value] 49:=by rw[←hw];exact kj.drewN n
  have Hg:Below w.heap.size w w3:=by rw[←hw];exact QJa He n
  clear hw kj He n0 n1 nl;have n0:=j8.cell 0;have n1:=j8.cell 1;have nl:=j8.lt;have iu:=QJk ps p.name;have bI:=hid (HP.o.new Hg);have bd:=Qpm ps p.name;have G8:=hid (show QOc ps p=ps.take (Qmb ps p.name)++p::ps.drop (QYe ps p.name)from rfl);have yv:=hid (show QYe ps p.name=Qmb ps p.name+if Qtc ps p.name=true then 1 else 0 from rfl);have gj:=hid (fun hk=>Qyk (l:=ps) (x:=p.name) hk);have yt:=hid (fun hk=>QUf (l:=ps) (x:=p.name) hk);have ma:=hid (show ∀(q:Nat) (hq:q<ps.length),∃g o,a=some ⟨g,o,none⟩from fun q hq=>by
   obtain⟨g,o,e,_⟩:=bI.o.at q hq;exact⟨g,o,e⟩)
  generalize QYe ps p.name=q at *
  generalize Qmb ps p.name=k at *
  obtain⟨hre1,hre2,hre3⟩:=bd;have mT:k≤cap:=by omega
  go_upto_region 4 with fail;go_cut [6] (fun y wx=>QUo ps k a w3 y wx)
  case first=>
   by_cases gd:cap=k
   ·subst gd;go_wp2_with fail;go_meet;exact⟨a,0,0,by rw[show ps.length-cap=0 from by omega],fun h=>absurd h (by omega),rfl⟩
   have um:k<cap:=by omega
   by_cases kX:k<ps.length
   ·obtain⟨g,o,rfl⟩:=ma.o k kX;go_wp2_with fail;go_meet;exact⟨_,_,0,rfl,fun _=>⟨g,o,rfl,rfl⟩,rfl⟩
   have jv:ps.length=k:=by omega
   cases a with
   | none=>
    go_wp2_with fail;go_meet;exact⟨_,cap-k,0,by rw[show ps.length-k=0 from by omega],fun h=>absurd h (by omega),rfl⟩
   | some ad=>
    go_wp2_with fail;go_meet;exact⟨_,cap-k,0,by rw[show ps.length-k=0 from by omega],fun h=>absurd h (by omega),rfl⟩
  case rest=>
   obtain⟨ra0,rc0,m0,rfl,iA,rfl⟩:=hcut;go_upto_region 5 with fail;go_cut [40] (fun y wx=>∃n,y=.bool (Qtc ps p.name)∧w3.drewN n=wx)
   case first=>
    by_cases kX:k<ps.length
    ·obtain⟨g,o,rfl,hg,c0,c1,b0,b1⟩:=bI.o.at k kX;have pb:(k:Int)<(ps.length:Int):=by omega
     have hh:=gj.o kX;cases Hl:(ps[k].name.toList==p.name.toList)with
     | true=>
      have hH:=hid (show Qtc ps p.name=true from by rw[hh];exact Hl);clear hh;go_wp2_with fail;go_quiet(fail);go_wp2_with fail;go_meet;exact⟨_,by rw[hH.o],(Q6c _ _ _).symm⟩
     | false=>
      have hH:=hid (show Qtc ps p.name=false from by rw[hh];exact Hl);clear hh;go_wp2_with fail;go_quiet(fail);go_wp2_with fail;go_meet;exact⟨_,by rw[hH.o],(Q6c _ _ _).symm⟩
    have hd:decide ((k:Int)<(ps.length:Int))=false:=by simp;omega
    have hH:=hid (show Qtc ps p.name=false from yt.o (by omega));go_wp2_with fail;go_quiet(fail);go_wp2_with fail;go_meet;exact⟨_,by rw[hH.o],(Q6c _ _ _).symm⟩
   case rest=>
    obtain⟨m1,rfl,rfl⟩:=hcut;have jy:=yv.o
    go_upto_if 40 with fail
    go_cut [6] (fun y wx=>QUo ps q a w3 y wx)
    case first=>
     cases hh:Qtc ps p.name with
     | false=>
      rw[hh]at jy;have vx:q=k:=by simpa using jy
      subst vx;clear jy;go_wp2_with fail;go_meet;exact⟨ra0,rc0,_,rfl,iA,rfl⟩
     | true=>
      rw[hh]at jy;have vx:q=k+1:=by simpa using jy
      subst vx;clear jy iA;obtain⟨g,o,rfl⟩:=ma.o k (by omega);by_cases gd:cap=k+1
      ·subst gd;go_wp2_with fail;go_meet;exact⟨_,0,_,by rw[show ps.length-(k+1)=0 from by omega],fun h=>absurd h (by omega),rfl⟩
      have um:k+1<cap:=by omega
      go_wp2_with fail;go_meet;exact⟨_,_,_,rfl,fun _=>⟨g,o,rfl,rfl⟩,rfl⟩
    case rest=>
     obtain⟨ra,rc,m2,rfl,vA,hw⟩:=hcut;have Jx:Holds wc w.heap.size #[.string p.name,.string p.value] 49:=by rw[←hw];exact j8.drewN m2
     have Hu:Below w.heap.size w wc:=by rw[←hw];exact QJa Hg m2
     have bJ:=hid (HP.o.new Hu);clear hw j8 Hg n0 n1 nl bI yv gj yt iA jy;obtain⟨w4,rfl⟩:∃x:World,x=wc:=⟨_,rfl⟩;have MP:=Hu.size;obtain⟨i0,hi,Hz,Ho,H4⟩:=info_parts QGc;go_upto_region 7 with fail;go_cut [7] (fun y wx=>∃ov,y=ov∧Qna wx w.heap.size ov (ps.take k)∧Below w4.heap.size w4 wx)
     case first=>
      by_cases GN:k=0
      ·subst GN;cases a with
       | none=>
        go_wp2_with(at_builtin;refine Qrb rfl _ _ 44 rfl w.heap.size 49 i0 2 underlying44 hi (.slice (some ⟨w4.heap.size,0,none⟩) 0 0) 0 [] rfl (by exact Qub rfl MP) none cap rfl ?_);go_meet;exact⟨_,rfl,⟨Qub rfl MP,fun _ h=>by simp at h⟩,Bq⟩
       | some ad=>
        go_wp2_with(at_builtin;refine Qrb rfl _ _ 44 rfl w.heap.size 49 i0 2 underlying44 hi (.slice (some ⟨w4.heap.size,0,none⟩) 0 0) 0 [] rfl (by exact Qub rfl MP) (some ad) cap rfl ?_);go_meet;exact⟨_,rfl,⟨Qub rfl MP,fun _ h=>by simp at h⟩,Bq⟩
      obtain⟨g,o,ue,GG,_,Kn,KQ,_⟩:=bJ.o.row (by omega);subst ue;have cy:=hid KQ;have qv:=hid Kn;clear KQ Kn;have Jn:0<k:=by omega
      go_wp2_with(at_builtin;refine wpList_append_own _ rfl _ _ 44 rfl w.heap.size 49 i0 (.agg #[.string ⟨#[]⟩,.string ⟨#[]⟩]) 2 32 underlying44 hi Hz Ho H4 rfl (by decide) (.slice (some ⟨w4.heap.size,0,none⟩) 0 0) 0 [] rfl (by exact Qub rfl MP) ⟨g,o,none⟩ k cap (Qfa (ps.take k)) rfl ?c0 ?c1 ?c2 ?c3 ?c4 ?c5 ?_)
      case c0=>rw[Q4a];simp;omega
      case c1=>exact Q1d (Qik cy.o k) GG (Bq)
      case c2=>exact QDb _
      case c3=>unfold maxLen;omega
      case c4=>omega
      case c5=>simp;omega
      intro v' w5 Hj Hd _;have H5:Below w4.heap.size w4 w5:=((Below.refl w4.heap.size w4).alloc (Nat.le_refl _) (.cells #[] 49)).grown Hd (by simp) (fun q hq=>by have:w4.heap.size=q:=Option.some.inj hq;omega);have mC:∀x∈ps.take k,Qod x:=fun x hx=>qv.o x (List.mem_of_mem_take hx);have sD:=hid mC;clear mC;have hlen:(ps.take k).length=k:=by simp;omega
      have HL:=hid hlen;clear hlen Hd;obtain⟨va,vc,rfl⟩:=Qea Hj;go_wp2_with fail;go_meet;exact⟨_,rfl,⟨by rw[HL.o];exact Hj,sD.o⟩,H5⟩
     case rest=>
      obtain⟨ov,rfl,hO,H5⟩:=hcut;have qC:=Jx.fr H5;have ou:=hid (bJ.o.new H5);have gn:=Hu.trans (H5.mono MP);have bX:=gn.size;have n0:=qC.cell 0;have n1:=qC.cell 1;have nl:=qC.lt;have hlen:(ps.take k).length=k:=by simp;omega
      obtain⟨Hs,gv⟩:=hO;rw[hlen]at Hs;have KK:=hid gv;clear Jx Hu bJ gv hlen H5;obtain⟨oa,oc,rfl⟩:=Qea Hs;have kO:=hid Hs;clear Hs;go_wp2_with(at_builtin;refine wpList_append_own _ rfl (.tmp 50) (.tmp 52) 44 rfl w.heap.size 49 i0 (.agg #[.string ⟨#[]⟩,.string ⟨#[]⟩]) 2 32 underlying44 hi Hz Ho H4 rfl (by decide) _ k (Qfa (ps.take k)) rfl (by exact World.ownsRow.alloc kO.o _) ⟨wc.heap.size,0,none⟩ 1 1 [.string p.name,.string p.value] rfl rfl ?d1 ?d2 ?d3 ?d4 ?d5 ?_)
      case d1=>exact Q8a _ _ _ _ rfl _ rfl
      case d2=>intro x hx;simp at hx;rcases hx with rfl|rfl <;> rfl
      case d3=>unfold maxLen;omega
      case d4=>omega
      case d5=>simp;omega
      intro v6 w6 Km ju _;have Gd:=(gn.alloc bX (.cells #[.string p.name,.string p.value] 49)).grown ju (by simp;omega) (fun g hg=>(kO.o.lt g hg).1);have ug:Qaa (fun i=>some i=(Value.slice oa k oc).ownBlock) wc w6:=((Qaa.refl _ wc).alloc _).grown ju (fun i hi=>.inr hi.symm);have mn:=Gd.size;have Kn:∀x∈QOc ps p,Qod x:=by
       intro x hx;rw[G8.o]at hx;rcases List.mem_append.1 hx with hx|hx
       ·exact KK.o x hx
       rcases List.mem_cons.1 hx with rfl|hx
       ·exact ft.o
       have hm:=List.mem_of_mem_drop hx;obtain⟨j,hj,rfl⟩:=List.mem_iff_getElem.1 hm;obtain⟨_,_,_,_,_,_,b0,b1⟩:=ou.o.at j hj;exact⟨b0,b1⟩
      have qv:=hid Kn;have eO:Hid ((QOc ps p).length=k+1+(ps.length-q)):=by
       show _=_;rw[G8.o];simp;omega
      have aX:Hid (Qfa (QOc ps p)=Qfa (ps.take k)++[.string p.name,.string p.value]++Qfa (ps.drop q)):=by
       show _=_;rw[G8.o,Qde];simp[Qfa]
      have H6:=hid Km;obtain⟨va,vc,rfl⟩:=Qea Km;clear Km Kn ju n0 n1 nl qC gn;by_cases hq:q<ps.length
      ·obtain⟨g,o,ue,rfl⟩:=vA hq;subst ue;obtain⟨g',o',e',GG,_,_,KQ,_⟩:=ou.o.row (by omega);cases e';have hgw:g<w.heap.size:=by
        obtain⟨_,_,e2,h2,_⟩:=HP.o.row (by omega);cases e2;exact h2
       have cy:=hid (Qjk KQ q);have Hw:∀j u,(Qfa (ps.drop q))[j]? = some u→w6.cell? ((⟨g,o+q*2,none⟩:Addr).add j)=some u:=by
        intro j u hu;have h1:=cy.o j u hu;rw[Addr.add_lit]at h1 ⊢;refine(ug.cell (p:=⟨g,o+q*2+j,none⟩) GG ?_).trans h1;intro e;have:=(kO.o.lt g e.symm).1;omega
       have yK:=hid Hw;clear KQ Hw vA;go_wp2_with(at_builtin;refine wpList_append_own _ rfl (.tmp 53) (.tmp 54) 44 rfl w.heap.size 49 i0 (.agg #[.string ⟨#[]⟩,.string ⟨#[]⟩]) 2 32 underlying44 hi Hz Ho H4 rfl (by decide) _ (k+1) (Qfa (ps.take k)++[.string p.name,.string p.value]) rfl (by exact H6.o) ⟨g,o+q*2,none⟩ (ps.length-q) rc (Qfa (ps.drop q)) rfl ?f0 ?f1 ?f2 ?f3 ?f4 ?f5 ?_)
       case f0=>rw[Q4a];simp
       case f1=>exact yK.o
       case f2=>exact QDb _
       case f3=>unfold maxLen;omega
       case f4=>omega
       case f5=>omega
       intro v8 w8 gO aM _;have Gq:=Gd.grown aM mn (fun g hg=>(H6.o.lt g hg).1);obtain⟨va2,vc2,rfl⟩:=Qea gO;clear aM;go_wp2_with fail;go_ret;exact⟨.slice va2 (k+1+(ps.length-q)) vc2,rfl,⟨by rw[eO.o,aX.o];simpa using gO,qv.o⟩,Gq⟩
      have hz:ps.length-q=0:=by omega
      rw[hz]at *
      clear hz vA;have hd:Hid (ps.drop q=[]):=List.drop_eq_nil_of_le (by omega);go_wp2_with(at_builtin;refine Qrb rfl (.tmp 53) (.tmp 54) 44 rfl w.heap.size 49 i0 2 underlying44 hi _ (k+1) (Qfa (ps.take k)++[.string p.name,.string p.value]) rfl (by exact H6.o) ra rc rfl ?_);go_ret;exact⟨.slice va (k+1) vc,rfl,⟨by rw[eO.o,aX.o,hd.o,show ps.length-q=0 from by omega];simpa[Qfa]using H6.o,qv.o⟩,Gd⟩
theorem QAa.nil_of{R:Nat→Prop}{w:World}{n cap:Nat}{ps:List Qqa}(h:QAa R w (.slice none n cap) ps):ps=[]:=by
 obtain⟨a,c,e,_,_,h3⟩:=h;cases e;by_cases h0:0<ps.length
 ·obtain⟨g,o,e,_⟩:=h3 h0;cases e
 exact List.length_eq_zero_iff.1 (by omega)
theorem Qjm(R:Nat→Prop)(v:Value)(ps:List Qqa)(w:World)(hP:QAa R w v ps)(hl:ps.length≤1000) :
 Calls prog 76 #[v] w fun e w'=>∃v',e=.returned v'∧Qna w' w.heap.size v' ps∧Below w.heap.size w w':=by
 obtain⟨a,cap,rfl,gy,gh⟩:=hP.shape;obtain⟨i0,hi,Hz,Ho,H4⟩:=info_parts QGc;have q40:∀(w:World) (a:Option Addr) (n c:Nat),(binOp .eql 44 (.slice a n c) (.slice none 0 0)).run prog w=.ok (.bool a.isNone) w:=fun w a n c=>Lib.run_eql_slice_nil w _ _ a n c 0 0 underlying44;cases a with
 | none=>
  have mD:=hid hP.nil_of;clear hP;go_enter func76,ntmps76;go_wp2_with fail;go_ret;exact⟨_,rfl,by rw[mD.o];exact Qna.nil _ _,Below.refl _ _⟩
 | some ad=>
  have HP:=hid hP;clear hP;by_cases hpz:ps.length=0
  ·have mD:ps=[]:=List.length_eq_zero_iff.1 hpz;rw[hpz]at *
   have bC:=hid mD;clear mD hpz;go_enter func76,ntmps76;go_wp2_with(at_builtin;refine Qrb rfl _ _ 44 rfl w.heap.size 49 i0 2 underlying44 hi (.slice (some ⟨w.heap.size,0,none⟩) 0 0) 0 [] rfl (by exact Qub rfl (by omega)) (some ad) cap rfl ?_);go_ret;refine⟨_,rfl,?_,(Below.refl _ _).alloc (by omega) _⟩;rw[bC.o];exact⟨Qub rfl (by omega),fun _ h=>by cases h⟩
  obtain⟨pg,po,lI,JI,_,Kn,KQ,MN⟩:=HP.o.row (by omega);obtain rfl:ad=⟨pg,po,none⟩:=by simpa using lI
  have cy:=hid KQ;have ft:=hid Kn;have He:Below w.heap.size w (w.alloc (.cells #[] 49)):=Bq;clear KQ Kn MN lI;go_enter func76,ntmps76;go_wp2_with(at_builtin;refine wpList_append_own _ rfl _ _ 44 rfl w.heap.size 49 i0 (.agg #[.string ⟨#[]⟩,.string ⟨#[]⟩]) 2 32 underlying44 hi Hz Ho H4 rfl (by decide) (.slice (some ⟨w.heap.size,0,none⟩) 0 0) 0 [] rfl (by exact Qub rfl (by omega)) ⟨pg,po,none⟩ ps.length cap (Qfa ps) rfl (Q4a _) ?c1 ?c2 ?c3 ?c4 ?c5 ?_)
  case c1=>exact Q1d cy.o JI (Bq)
  case c2=>exact QDb _
  case c3=>unfold maxLen;omega
  case c4=>omega
  case c5=>simp
  intro v' w5 Hj Hd _;have H5:=He.grown Hd (by simp) (fun q hq=>by have:w.heap.size=q:=Option.some.inj hq;omega);go_wp2_with fail;go_ret;exact⟨_,rfl,⟨by simpa using Hj,ft.o⟩,H5⟩
theorem QXf:(prog.info? 39).map (fun i=>(i.zero,i.size,i.bytes))=some (some (.agg #[.int .i64 0,.string ⟨#[]⟩,.string ⟨#[]⟩,.string ⟨#[]⟩]),4,56):=by kernel_rfl
theorem QVc(a b:List Qga):Qha (a++b)=Qha a++Qha b:=by simp[Qha]
theorem Qcb(x:Qga)(b:List Qga):Qha (x::b)=[.int .i64 x.kind,.string x.path,.string x.name,.string x.value]++Qha b:=rfl
theorem QGd:∀(l:List Qga) (k:Nat),Qha (l.take k)=(Qha l).take (k*4)
 | [],k=>by simp[Qha]
 | p::l,0=>by simp[Qha]
 | p::l,k+1=>by
  rw[show(k+1)*4=k*4+1+1+1+1 from by omega];simp only[List.take_succ_cons,Qcb,List.cons_append,List.nil_append];rw[QGd l k]
theorem Q6e:∀(l:List Qga) (k:Nat),Qha (l.drop k)=(Qha l).drop (k*4)
 | [],k=>by simp[Qha]
 | p::l,0=>by simp[Qha]
 | p::l,k+1=>by
  rw[show(k+1)*4=k*4+1+1+1+1 from by omega];simp only[List.drop_succ_cons,Qcb,List.cons_append,List.nil_append];rw[Q6e l k]
theorem QEq{w:World}{base:Nat}{e:TypeId}{g n cap:Nat}{xs:List Value}(h:w.ownsRow base e 4 (.slice (some ⟨g,0,none⟩) n cap) n xs)(p:Nat):∀j u,(xs.drop (p*4))[j]? = some u→w.cell? ((⟨g,p*4,none⟩:Addr).add j)=some u:=by
 intro j u hu;have Gk:(⟨g,p*4,none⟩:Addr).add j=⟨g,p*4+j,none⟩:=by unfold Addr.add;split <;> simp_all
 rw[List.getElem?_drop]at hu;have hj:=(List.getElem?_eq_some_iff.1 hu).1;rw[Gk,h.cellAt (p*4+j) (by have:=h.1;omega),hu]
theorem Qbl{w:World}{base:Nat}{e:TypeId}{g n cap:Nat}{xs:List Value}(h:w.ownsRow base e 4 (.slice (some ⟨g,0,none⟩) n cap) n xs)(p:Nat):∀j u,(xs.take p)[j]? = some u→w.cell? ((⟨g,0,none⟩:Addr).add j)=some u:=by
 intro j u hu;have Gk:(⟨g,0,none⟩:Addr).add j=⟨g,j,none⟩:=by unfold Addr.add;split <;> simp_all
 have hj:=(List.getElem?_eq_some_iff.1 hu).1;simp at hj;rw[List.getElem?_take,if_pos (by omega)]at hu;rw[Gk,h.cellAt j (by have:=h.1;omega),hu]
theorem Q4i(a b:Qga)(w:World) :
 Calls prog 56 #[.agg #[.int .i64 a.kind,.string a.path,.string a.name,.string a.value],.agg #[.int .i64 b.kind,.string b.path,.string b.name,.string b.value]] w fun e w'=>e=.returned (.bool (ltE a b))∧Below w.heap.size w w':=by
 have He:Below w.heap.size w ((w.alloc (.cells #[.int .i64 a.kind,.string a.path,.string a.name,.string a.value] 39)).alloc (.cells #[.int .i64 b.kind,.string b.path,.string b.name,.string b.value] 39)):=(Bq).alloc (by simp) _;cases h1:Op.bytesLess a.path.toList b.path.toList with
 | true=>
  have HR:=hid (show ltE a b=true from by unfold ltE;rw[show ltS a.path b.path=true from h1];rfl);generalize ltE a b=R at *
  go_enter func56,ntmps56;go_wp2_with fail;go_ret;exact⟨by rw[HR.o];rfl,He⟩
 | false=>
  cases h2:(a.path.toList==b.path.toList)with
  | false=>
   have HR:=hid (show ltE a b=false from by unfold ltE;rw[show ltS a.path b.path=false from h1,show eqS a.path b.path=false from h2];rfl);generalize ltE a b=R at *
   go_enter func56,ntmps56;go_wp2_with fail;go_ret;exact⟨by rw[HR.o];rfl,He⟩
  | true=>
   cases h3:Op.bytesLess a.name.toList b.name.toList with
   | true=>
    have HR:=hid (show ltE a b=true from by unfold ltE;rw[show ltS a.path b.path=false from h1,show eqS a.path b.path=true from h2,show ltS a.name b.name=true from h3];rfl);generalize ltE a b=R at *
    go_enter func56,ntmps56;go_wp2_with fail;go_ret;exact⟨by rw[HR.o];rfl,He⟩
   | false=>
    have HR:=hid (show ltE a b=false from by unfold ltE;rw[show ltS a.path b.path=false from h1,show eqS a.path b.path=true from h2,show ltS a.name b.name=false from h3];rfl);generalize ltE a b=R at *
    go_enter func56,ntmps56;go_wp2_with fail;go_ret;exact⟨by rw[HR.o];rfl,He⟩
end Go.Proofs.YtgaboghigefgbaaGreatDoor
