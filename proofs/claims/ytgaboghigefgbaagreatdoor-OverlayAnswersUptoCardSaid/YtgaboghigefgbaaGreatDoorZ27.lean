/- Lemmas on the way to the law; no conditions. -/
import Derived.Test.YtgaboghigefgbaaGreatDoorZ25
import Derived.Test.YtgaboghigefgbaaGreatDoorZ26
open Go
set_option linter.all false
set_option maxRecDepth 100000
set_option maxHeartbeats 8000000
namespace Go.Proofs.YtgaboghigefgbaaGreatDoor
open Go.Proofs.Tryz
open Go.Lib (hid)
theorem QZm{a b:ByteArray}(h:ltS a b=true):eqS a b=false:=by
 cases e:eqS a b with
 | false=>rfl
 | true=>rw[(QCa a b).1 e,Qqb]at h;cases h
theorem QYm{a b:ByteArray}(h:ltS b a=true):eqS a b=false:=by
 cases e:eqS a b with
 | false=>rfl
 | true=>rw[(QCa a b).1 e,Qqb]at h;cases h
theorem QIk(x:ByteArray):∀ps:List Qqa,(∀j (hj:j<ps.length),j<Qmb ps x→ltS ps[j].name x=true)∧(∀h:Qmb ps x<ps.length,ltS ps[Qmb ps x].name x=false):=by
 intro ps
 induction ps with
 | nil=>exact⟨fun j hj=>absurd hj (Nat.not_lt_zero j),fun h=>absurd h (Nat.not_lt_zero _)⟩
 | cons a l ih=>
  by_cases e:ltS a.name x=true
  ·have hl:Qmb (a::l) x=Qmb l x+1:=by unfold Qmb;rw[List.takeWhile_cons,if_pos e];rfl
   refine⟨fun j hj h=>?_,fun h=>?_⟩
   ·cases j with
    | zero=>exact e
    | succ j=>exact ih.1 j (by simpa using hj) (by omega)
   have h2:Qmb l x<l.length:=by rw[hl]at h;simpa using h
   have:=ih.2 h2;simp only[hl,List.getElem_cons_succ];exact this
  have hl:Qmb (a::l) x=0:=by unfold Qmb;rw[List.takeWhile_cons,if_neg e];rfl
  refine⟨fun j hj h=>by omega,fun h=>?_⟩;simp only[hl,List.getElem_cons_zero];simpa using e
theorem Qhh{ps:List Qqa}{x:ByteArray}(ha:Qjd ps=true)(j:Nat)(hj:j<ps.length)(Hl:j≠Qmb ps x∨Qtc ps x=false):eqS ps[j].name x=false:=by
 obtain⟨h1,h2⟩:=QIk x ps;rcases Nat.lt_trichotomy j (Qmb ps x)with e|e|e
 ·exact QZm (h1 j hj e)
 ·rcases Hl with h|h
  ·exact absurd e h
  subst e;rw[Qyk hj]at h;exact h
 have hl:Qmb ps x<ps.length:=by omega
 have h3:=QOm ps ha _ j hl hj e;have h4:=h2 hl;rcases Qad h4 with h5|h5
 ·rw[h5]at h3;exact QYm h3
 exact QYm (Q5b h5 h3)
theorem QHs{ps:List Qqa}{x:ByteArray}(ha:Qjd ps=true):ofT ps x=if Qtc ps x=true then(match ps[Qmb ps x]? with|some p=>p.value|none=>ByteArray.empty,true)else(ByteArray.empty,false):=by
 cases hh:Qtc ps x with
 | false=>rw[if_neg (by decide)];exact Qau (fun j hj _=>Qhh ha j hj (.inr hh))
 | true=>
  have hl:Qmb ps x<ps.length:=by
   by_cases e:Qmb ps x<ps.length
   ·exact e
   rw[QUf (by omega)]at hh;cases hh
  rw[if_pos rfl,List.getElem?_eq_getElem hl];exact Q9p hl (by rw[←Qyk hl];exact hh) (fun j hj h=>Qhh ha j hj (.inl (by omega)))
end Go.Proofs.YtgaboghigefgbaaGreatDoor
namespace Go.Proofs.YtgaboghigefgbaaGreatDoor
open Go.Proofs.Tryz
open Go.Lib (hid)
open Go.RowKit
noncomputable def Q4e(n:Nat):Array Oper:=(QPa (Tryz.f115.body.getD .skip) n).getD #[]
theorem Q8u:Q0b .any (Q4e 2)=true:=by kernel_rfl
theorem Qmg:QRb (Q4e 2)=true:=by kernel_rfl
theorem Qdp:(Q4e 2).size=14:=by kernel_rfl
def Qfr(Z gT n cap:Nat)(pv:Value)(W w:World):Prop:=Holds w Z #[.slice (some ⟨gT,0,none⟩) n cap] 27∧Qaa (fun b=>pv.ownBlock=some b∨b=gT) W w
def Qou(pv:Value)(W:World)(l:Array Bool)(w:World):Prop:=
 (l.getD 10 false=false→Qaa (fun _=>False) W w)∧(l.getD 13 false=false→Qaa (fun b=>pv.ownBlock=some b) W w)
theorem Qou.keep{pv:Value}{W w w':World}{l:Array Bool}(h:Qou pv W l w)(i:Nat)(h1:Qaa (fun _=>False) W w→Qaa (fun _=>False) W w')(h2:Qaa (fun b=>pv.ownBlock=some b) W w→Qaa (fun b=>pv.ownBlock=some b) W w'):Qou pv W (l.setIfInBounds i true) w':=
 ⟨fun e=>h1 (h.1 (Qja e)),fun e=>h2 (h.2 (Qja e))⟩
def Qxs(base Z gT n cap at_ fn:Nat)(caps:Array Value)(pv:Value)(ps2:List Qqa)(T2:List Qba)(j:Nat):Value→World→Prop:=match j with
 | 0=>fun u _=>u=.pointer (some ⟨Z,0,none⟩)
 | 1=>fun u _=>u=.slice (some ⟨gT,0,none⟩) n cap
 | 2=>fun u _=>u=.int .i64 at_
 | 3=>fun u _=>u=.func (.func fn) #[] caps
 | 4=>fun u _=>u=.pointer (some ⟨Z,0,none⟩)
 | 5=>fun u _=>u=.slice (some ⟨gT,0,none⟩) n cap
 | 6=>fun u _=>u=.int .i64 at_
 | 7=>fun u _=>u=.pointer (some ⟨gT,at_*3,none⟩)
 | 8=>fun u _=>u=.pointer (some ⟨gT,at_*3+2,none⟩)
 | 9=>fun u _=>u=pv
 | 10=>fun u w=>Qna w base u ps2
 | 11=>fun u _=>u=.pointer (some ⟨gT,at_*3,none⟩)
 | 12=>fun u _=>u=.pointer (some ⟨gT,at_*3+2,none⟩)
 | 13=>fun _ w=>Qda w base (.slice (some ⟨gT,0,none⟩) n cap) T2
 | _=>fun _ _=>True
section
variable{base Z gT n cap at_ fn:Nat}{caps:Array Value}{pv:Value}{ps2:List Qqa}{T2:List Qba}
theorem Qfr.call{W w w':World}(h:Qfr Z gT n cap pv W w)(hZ:pv.ownBlock≠some Z)(k:Qaa (fun b=>pv.ownBlock=some b) w w'):Qfr Z gT n cap pv W w':=⟨h.1.keeps k hZ,h.2.trans k (fun _ _ e=>Or.inl e)⟩
theorem Qfr.put{W w:World}(h:Qfr Z gT n cap pv W w)(hZ:Z≠gT)(v:Value):Qfr Z gT n cap pv W (w.setCell ⟨gT,at_*3+2,none⟩ v):=
 ⟨h.1.other _ _ hZ,h.2.trans ((Qaa.refl (fun b=>pv.ownBlock=some b∨b=gT) w).setCell (p:=⟨gT,at_*3+2,none⟩) (Or.inr (Or.inr rfl)) v) (fun _ _ e=>e)⟩
theorem Qxs.call{w w':World}{j:Nat}{u:Value}(h:Qxs base Z gT n cap at_ fn caps pv ps2 T2 j u w)(gR:j≠10)(M3:j≠13):Qxs base Z gT n cap at_ fn caps pv ps2 T2 j u w':=by
 unfold Qxs at *
 split at h
 all_goals first
  | exact absurd rfl gR
  | exact absurd rfl M3
  | exact h
theorem Qxs.put{w w':World}{j:Nat}{u:Value}(h:Qxs base Z gT n cap at_ fn caps pv ps2 T2 j u w)(M3:j≠13)(gR:j≠10):Qxs base Z gT n cap at_ fn caps pv ps2 T2 j u w':=h.call gR M3
end
theorem QKl{Q:Exit→Act→World→Prop}(base Z gT n cap at_ fn:Nat)(caps:Array Value)(pv:Value)(ps2:List Qqa)(T2:List Qba)(W w:World)(A:Act)(hsz:A.tmps.size=29)(gj:at_<n)(oF:pv.ownBlock≠some Z)(ub:Z≠gT)(JI:pv.ownBlock≠some gT)(ja:∃cs,Holds W gT cs 46)
 (a1:A.tmps.getD 1 undef=.int .i64 at_) (a2:A.tmps.getD 2 undef=.func (.func fn) #[] caps) (a7:A.tmps.getD 7 undef=.pointer (some ⟨Z,0,none⟩))
 (gB:∀wx,Qaa (fun b=>pv.ownBlock=some b) W wx→wx.cell? ⟨gT,at_*3+2,none⟩=some pv∧wx.frozen? ⟨gT,at_*3+2,none⟩=false)
 (JG:∀args w,(callFunc fn args).run prog w=.ok (.enter fn args) w) (gG:Hid (∀wx,Qaa (fun _=>False) W wx→Calls prog fn (#[pv]++caps) wx fun e w'=>∃rv,e=.returned rv∧Qna w' base rv ps2∧Qaa (fun b=>pv.ownBlock=some b) wx w'))
 (G8:∀wx rv,Qna wx base rv ps2→Qaa (fun b=>pv.ownBlock=some b) W wx→Qda (wx.setCell ⟨gT,at_*3+2,none⟩ rv) base (.slice (some ⟨gT,0,none⟩) n cap) T2)
 (hS:Qfr Z gT n cap pv W w) (hX:Qaa (fun _=>False) W w)
 (hQ:∀c w',Qpb (Q4e 2) A c→Qfr Z gT n cap pv W w'→Qda w' base (.slice (some ⟨gT,0,none⟩) n cap) T2→Q .normal c w') :
 wpAny prog .any (Q4e 2) Q (Q4e 2).size (Array.replicate (Q4e 2).size false) A w:=by
 refine QNa (fun l c wx=>QCd (Q4e 2) A (Qxs base Z gT n cap at_ fn caps pv ps2 T2) (Qfr Z gT n cap pv W) l c wx∧Qou pv W l wx) Q8u ?hend ?Hk _ _ _ _ (by simp) (by simp) ⟨QCd.start hS,fun _=>hX,fun _=>hX.mono (fun _ _ e=>e.elim)⟩
 case hend=>
  intro l c wx hI hl;have h1:Qda wx base (.slice (some ⟨gT,0,none⟩) n cap) T2:=hI.1.2.2.2 13 (by rw[Qdp];decide) (hl 13 (by rw[Qdp];decide));exact hQ c wx hI.1.1 hI.1.2.1 h1
 clear hX;intro l c wx hI i' op ho hl Ha K' hK';have Jl:i'<14:=by rw[←Qdp];exact(Array.getElem?_eq_some_iff.1 ho).1
 simp only[Q4e,QPa,Tryz.f115,Option.getD_some,reduceIte,Nat.reduceEqDiff]at ho;have hS:=hI.1.2.1;have uE:(at_:Int)<n:=by omega
 have im:(0:Int)≤at_:=by omega
 have s1:=(hI.1.slot 1 (by kernel_rfl)).trans a1;have s2:=(hI.1.slot 2 (by kernel_rfl)).trans a2;have s7:=(hI.1.slot 7 (by kernel_rfl)).trans a7;simp only[Array.getD_eq_getD_getElem?]at s1 s2 s7;have GB:i'=0∨i'=1∨i'=2∨i'=3∨i'=4∨i'=5∨i'=6∨i'=7∨i'=8∨i'=9∨i'=10∨i'=11∨i'=12∨i'=13:=by omega
 rcases GB with rfl|rfl|rfl|rfl|rfl|rfl|rfl|rfl|rfl|rfl|rfl|rfl|rfl|rfl
 all_goals cases ho
 ·go_simp;exact hK' _ _ ⟨hI.1.stepL Qmg 0 15 rfl (by rw[hsz];decide) _ _ rfl Ha hS (fun _ _ _ h=>h) rfl,hI.2.keep 0 (fun h=>h) (fun h=>h)⟩
 ·have e0:c.tmps.getD 15 undef=.pointer (some ⟨Z,0,none⟩):=hI.1.fact 0 15 rfl (Qma Ha 0 (by kernel_rfl));simp only[Array.getD_eq_getD_getElem?]at e0;have hX:=hS.1.cell 0;go_simp;exact hK' _ _ ⟨hI.1.stepL Qmg 1 16 rfl (by rw[hsz];decide) _ _ rfl Ha hS (fun _ _ _ h=>h) rfl,hI.2.keep 1 (fun h=>h) (fun h=>h)⟩
 ·go_simp;exact hK' _ _ ⟨hI.1.stepL Qmg 2 17 rfl (by rw[hsz];decide) _ _ rfl Ha hS (fun _ _ _ h=>h) rfl,hI.2.keep 2 (fun h=>h) (fun h=>h)⟩
 ·go_simp;exact hK' _ _ ⟨hI.1.stepL Qmg 3 18 rfl (by rw[hsz];decide) _ _ rfl Ha hS (fun _ _ _ h=>h) rfl,hI.2.keep 3 (fun h=>h) (fun h=>h)⟩
 ·go_simp;exact hK' _ _ ⟨hI.1.stepL Qmg 4 19 rfl (by rw[hsz];decide) _ _ rfl Ha hS (fun _ _ _ h=>h) rfl,hI.2.keep 4 (fun h=>h) (fun h=>h)⟩
 ·have e4:c.tmps.getD 19 undef=.pointer (some ⟨Z,0,none⟩):=hI.1.fact 4 19 rfl (Qma Ha 4 (by kernel_rfl));simp only[Array.getD_eq_getD_getElem?]at e4;have hX:=hS.1.cell 0;go_simp;exact hK' _ _ ⟨hI.1.stepL Qmg 5 20 rfl (by rw[hsz];decide) _ _ rfl Ha hS (fun _ _ _ h=>h) rfl,hI.2.keep 5 (fun h=>h) (fun h=>h)⟩
 ·go_simp;exact hK' _ _ ⟨hI.1.stepL Qmg 6 21 rfl (by rw[hsz];decide) _ _ rfl Ha hS (fun _ _ _ h=>h) rfl,hI.2.keep 6 (fun h=>h) (fun h=>h)⟩
 ·have e5:c.tmps.getD 20 undef=.slice (some ⟨gT,0,none⟩) n cap:=hI.1.fact 5 20 rfl (Qma Ha 5 (by kernel_rfl));simp only[Array.getD_eq_getD_getElem?]at e5;have e6:c.tmps.getD 21 undef=.int .i64 at_:=hI.1.fact 6 21 rfl (Qma Ha 6 (by kernel_rfl));simp only[Array.getD_eq_getD_getElem?]at e6;go_simp;exact hK' _ _ ⟨hI.1.stepL Qmg 7 22 rfl (by rw[hsz];decide) _ _ rfl Ha hS (fun _ _ _ h=>h) rfl,hI.2.keep 7 (fun h=>h) (fun h=>h)⟩
 ·have e7:c.tmps.getD 22 undef=.pointer (some ⟨gT,at_*3,none⟩):=hI.1.fact 7 22 rfl (Qma Ha 7 (by kernel_rfl));simp only[Array.getD_eq_getD_getElem?]at e7;go_simp;exact hK' _ _ ⟨hI.1.stepL Qmg 8 23 rfl (by rw[hsz];decide) _ _ rfl Ha hS (fun _ _ _ h=>h) rfl,hI.2.keep 8 (fun h=>h) (fun h=>h)⟩
 ·have e8:c.tmps.getD 23 undef=.pointer (some ⟨gT,at_*3+2,none⟩):=hI.1.fact 8 23 rfl (Qma Ha 8 (by kernel_rfl));simp only[Array.getD_eq_getD_getElem?]at e8;have u10:=hI.1.2.2.1.2.unlisted hl (j:=10) (by kernel_rfl);have hX:=(gB wx ((hI.2.1 u10).mono (fun _ _ e=>e.elim))).1;go_simp;exact hK' _ _ ⟨hI.1.stepL Qmg 9 24 rfl (by rw[hsz];decide) _ _ rfl Ha hS (fun _ _ _ h=>h) rfl,hI.2.keep 9 (fun h=>h) (fun h=>h)⟩
 ·have e3:c.tmps.getD 18 undef=.func (.func fn) #[] caps:=hI.1.fact 3 18 rfl (Qma Ha 3 (by kernel_rfl));simp only[Array.getD_eq_getD_getElem?]at e3;have e9:c.tmps.getD 24 undef=pv:=hI.1.fact 9 24 rfl (Qma Ha 9 (by kernel_rfl));simp only[Array.getD_eq_getD_getElem?]at e9;have u13:=hI.1.2.2.1.2.unlisted hl (j:=13) (by kernel_rfl);have kq:=hI.2.1 hl;go_simp;refine(gG.o wx kq).mono ?_;rintro e w2 ⟨rv,rfl,hr,k2⟩;go_simp;exact hK' _ _ ⟨hI.1.stepL Qmg 10 25 rfl (by rw[hsz];decide) _ _ rfl Ha (hS.call oF k2) (fun j hj _ h=>h.call (Q1a hj hl) (Q1a hj u13)) hr,⟨(fun h=>absurd rfl (QUd h (by rw[hI.1.2.2.1.1,Qdp];decide))),fun h=>(kq.mono (fun _ _ e=>e.elim)).trans k2 (fun _ _ e=>e)⟩⟩
 ·have e1:c.tmps.getD 16 undef=.slice (some ⟨gT,0,none⟩) n cap:=hI.1.fact 1 16 rfl (Qma Ha 1 (by kernel_rfl));simp only[Array.getD_eq_getD_getElem?]at e1;have e2:c.tmps.getD 17 undef=.int .i64 at_:=hI.1.fact 2 17 rfl (Qma Ha 2 (by kernel_rfl));simp only[Array.getD_eq_getD_getElem?]at e2;go_simp;exact hK' _ _ ⟨hI.1.stepL Qmg 11 26 rfl (by rw[hsz];decide) _ _ rfl Ha hS (fun _ _ _ h=>h) rfl,hI.2.keep 11 (fun h=>h) (fun h=>h)⟩
 ·have e11:c.tmps.getD 26 undef=.pointer (some ⟨gT,at_*3,none⟩):=hI.1.fact 11 26 rfl (Qma Ha 11 (by kernel_rfl));simp only[Array.getD_eq_getD_getElem?]at e11;go_simp;exact hK' _ _ ⟨hI.1.stepL Qmg 12 27 rfl (by rw[hsz];decide) _ _ rfl Ha hS (fun _ _ _ h=>h) rfl,hI.2.keep 12 (fun h=>h) (fun h=>h)⟩
 have e12:c.tmps.getD 27 undef=.pointer (some ⟨gT,at_*3+2,none⟩):=hI.1.fact 12 27 rfl (Qma Ha 12 (by kernel_rfl));simp only[Array.getD_eq_getD_getElem?]at e12;have hr:Qna wx base (c.tmps.getD 25 undef) ps2:=hI.1.fact 10 25 rfl (Qma Ha 10 (by kernel_rfl));generalize hc25:c.tmps.getD 25 undef=rv at hr;obtain⟨a2,c2,bW⟩:=Qea hr.1;subst bW;simp only[Array.getD_eq_getD_getElem?]at hc25;have kq:=hI.2.2 hl;obtain⟨n0,n1⟩:=gB wx kq;obtain⟨ncs,hH⟩:=ja;have M4:=hH.keeps kq JI;go_simp;exact hK' _ _ ⟨hI.1.stepNL 13 rfl _ rfl Ha (hS.put ub _) (fun j hj _ h=>by
  by_cases e:j=10
  ·subst e;exact Qna.set h M4 (by decide) _ _
  exact h.put (Q1a hj hl) e) (G8 wx _ hr kq),⟨(fun h=>absurd ((Qja h).symm.trans (Qma Ha 10 (by kernel_rfl))) (by decide)),(fun h=>absurd rfl (QUd h (by rw[hI.1.2.2.1.1,Qdp];decide)))⟩⟩
theorem QFp(n i:Nat)(h:i<n):(List.range n).idxOf i=i:=by
 induction n with
 | zero=>omega
 | succ n ih=>
  rw[List.range_succ];by_cases e:i<n
  ·rw[List.idxOf_append,if_pos (by simpa using e),ih e]
  have:i=n:=by omega
  subst this;rw[List.idxOf_append,if_neg (by simp)];simp
theorem Qdi{T:List Qba}(hc:Qia T=0)(h0:0<T.length):Qta T=T:=by
 have hp:=QOa hc;have hw:=Qhj hp.2.1 h0;rw[hp.2.2.1]at hw;have ho:Qgb T=List.range T.length:=by
  have:=hw.symm;rw[Bool.and_eq_true]at this;exact of_decide_eq_true this.1
 have Gv:=QBa hp.2.1;have hr:=QTb hp.2.1 h0;unfold Qta;rw[ho];apply List.ext_getElem
 ·simp
 intro i h1 h2;have hi:i<T.length:=h2;rw[List.getElem_map,List.getElem_range];unfold Q6b;rw[QHa hi,Qfb hi];by_cases e:i=0
 ·subst e;rw[Qxa hi];rfl
 have e0:0<i:=by omega
 obtain⟨Hh,GC⟩:=Qib Gv e0 hi;rw[if_neg e,ho,QFp _ _ (by omega),GC,Qxa hi]
theorem Qmf:∀(ps:List Qqa) (k:Nat) (hk:k<ps.length) (x:ByteArray),Qfa (ps.set k ⟨ps[k].name,x⟩)=(Qfa ps).set (k*2+1) (.string x)
 | p::ps,0,_,_=>rfl
 | p::ps,k+1,hk,x=>by
  have:=Qmf ps k (by simpa using hk) x;rw[show(k+1)*2+1=k*2+1+1+1 from by omega];simp only[List.set_cons_succ,Qfa,List.getElem_cons_succ];rw[this]
theorem QWq(base bo bk bn bv:Nat)(v:Value)(ps:List Qqa)(name value:ByteArray)(w:World)(hr:Qna w base v ps)(hl:ps.length≤1000)(hp:Qod ⟨name,value⟩)(gx:base≤w.heap.size)
 (ho:Holds w bo #[.bool (Qtc ps name)] 4) (hk:Holds w bk #[.int .i64 (Qmb ps name)] 3) (hn:Holds w bn #[.string name] 9) (hv:Holds w bv #[.string value] 9) :
 Calls prog 116 #[v,.pointer (some ⟨bo,0,none⟩),.pointer (some ⟨bk,0,none⟩),.pointer (some ⟨bn,0,none⟩),.pointer (some ⟨bv,0,none⟩)] w fun e w'=>∃v',e=.returned v'∧Qna w' base v' (QOc ps ⟨name,value⟩)∧Qaa (fun b=>v.ownBlock=some b) w w':=by
 have x0:=ho.cell 0;have x1:=hk.cell 0;have x2:=hn.cell 0;have x3:=hv.cell 0;have jO:=QJk ps name;cases hh:Qtc ps name with
 | false=>
  rw[hh]at x0;have GC:=hid (show QOc ps ⟨name,value⟩=QOo ps (Qmb ps name) ⟨name,value⟩from by unfold QOc QOo QYe;simp only[hh];rfl);have Hb:Below w.heap.size w (w.alloc (.cells #[.string name,.string value] 49)):=Bq;have du:=hid (Q0k base w.heap.size v ps (Qmb ps name) ⟨name,value⟩ _ (hr.new Hb) jO hl (Holds.new w #[.string name,.string value] 49) (fun e=>Nat.lt_irrefl _ (hr.1.lt _ e).2) hp (by simp;omega));have HR:=hid hr;obtain⟨va,vc,rfl⟩:=Qea hr.1;clear hr ho hk hn hv hh;generalize Qmb ps name=k at *
  go_enter func116,ntmps116;go_wp2_with fail;refine du.o.mono ?_;rintro e w2 ⟨v2,rfl,Gz,k2⟩;go_wp2_with fail;go_ret;exact⟨_,rfl,by rw[GC.o];exact Gz,(Qaa.of_fresh Hb (fun b=>(Value.slice va ps.length vc).ownBlock=some b)).trans k2 (fun _ _ e=>e)⟩
 | true=>
  rw[hh]at x0;have Hh:Qmb ps name<ps.length:=by
   by_cases e:Qmb ps name<ps.length
   ·exact e
   rw[QUf (by omega)]at hh;cases hh
  have Ht:ps[Qmb ps name].name=name:=by
   rw[Qyk Hh]at hh;exact(QCa _ _).1 hh
  have GC:QOc ps ⟨name,value⟩=ps.set (Qmb ps name) ⟨ps[Qmb ps name].name,value⟩:=by
   unfold QOc QYe;simp only[hh,if_true];rw[List.set_eq_take_append_cons_drop,if_pos Hh,Ht]
  obtain⟨g,cap',ev,-,hg⟩:=hr.1.form (by omega);subst ev;obtain⟨_,cur,hH⟩:=Qic hr.1 (g:=g) rfl;have hlen:=Q4a ps;have c0:w.cell? ⟨g,Qmb ps name*2+1,none⟩=some ((Qfa ps)[Qmb ps name*2+1]'(by omega)):=(hr.1.cellAt _ (by omega)).trans (List.getElem?_eq_getElem (by omega));have cf:=hH.free (Qmb ps name*2+1);obtain⟨s1,s2⟩:=hr.1.stored (Qmb ps name*2+1) (.string value);have HF:=hid (show Qna (w.setCell ⟨g,Qmb ps name*2+1,none⟩ (.string value)) base (.slice (some ⟨g,0,none⟩) ps.length cap') (QOc ps ⟨name,value⟩)from by
   rw[GC];refine⟨?_,fun q hq=>?_⟩
   ·rw[Qmf ps _ Hh,List.length_set];exact s1
   rcases List.mem_or_eq_of_mem_set hq with h|h
   ·exact hr.2 q h
   rw[h,Ht];exact hp)
  have kW:((Qmb ps name:Nat):Int)<(ps.length:Int):=by omega
  have hK:=hid (show Qaa (fun b=>(Value.slice (some ⟨g,0,none⟩) ps.length cap').ownBlock=some b) w (w.setCell ⟨g,Qmb ps name*2+1,none⟩ (.string value))from(Qaa.refl (fun b=>(Value.slice (some ⟨g,0,none⟩) ps.length cap').ownBlock=some b) w).setCell (p:=⟨g,Qmb ps name*2+1,none⟩) (Or.inr (show some g=some g from rfl)) _);generalize(Qfa ps)[Qmb ps name*2+1]'(by omega)=ov at c0;clear hr ho hk hn hv hh GC s1 s2 hH Ht hlen;generalize QOc ps ⟨name,value⟩=qs at HF ⊢;generalize Qmb ps name=k at *
  go_enter func116,ntmps116;go_wp2_with fail;go_ret;exact⟨_,rfl,HF.o,hK.o⟩
theorem Q1g(R:Nat→Prop)(v:Value)(T:List Qba)(at_ fn:Nat)(caps:Array Value)(qs:List Qqa)(w:World)(hT:Qoa R w v T)(hc:Qia T=0)(gj:at_<T.length)(JG:∀args w,(callFunc fn args).run prog w=.ok (.enter fn args) w)
 (gG:∀base u wx,Below w.heap.size w wx→w.heap.size≤base→base≤wx.heap.size→Qna wx base u T[at_].props→Calls prog fn (#[u]++caps) wx fun e w'=>∃v',e=.returned v'∧Qna w' base v' qs∧Qaa (fun b=>u.ownBlock=some b) wx w') :
 Calls prog 115 #[.agg #[v],.int .i64 at_,.func (.func fn) #[] caps] w fun e w'=>∃v',e=.returned (.agg #[v'])∧Qda w' w.heap.size v' (T.set at_ ⟨T[at_].parent,T[at_].name,qs⟩)∧Below w.heap.size w w':=by
 obtain⟨a,cap,rfl,gy,gh⟩:=hT.shape;have h0:0<T.length:=by omega
 have gS:=(Qlb (QQa hc)).2;have hp:=QOa hc;have hS:QUc T:=⟨h0,QBa hp.2.1,QTb hp.2.1 h0⟩;have yB:=hid (fun wx hx=>Qgj R (.slice a T.length cap) T wx hx hS (QSd hc) (by omega) (Q4b hc));have AI:=Qdi hc h0;have HT:=hid hT;have K6:=hid gG;have He:Below w.heap.size w ((w.alloc (.cells #[.slice a T.length cap] 27)).alloc (.cells #[.slice none 0 0] 27)):=(Bq).alloc (by simp) _;have xI:=Holds.newAt (w:=w.alloc (.cells #[.slice a T.length cap] 27)) (B:=w.heap.size+1) (by simp) #[.slice none 0 0] 27;have zX:=(Holds.new w #[.slice a T.length cap] 27).alloc (.cells #[.slice none 0 0] 27);have xD:=HT.o.new He;clear hT gG hp hS hc;go_enter func115,ntmps115;go_wp2_with fail;refine(yB.o _ (by exact xD)).mono ?_;rintro e w1 ⟨tv,gP,l,rfl,hr,hgP,bK,M8,-,Hb⟩;rw[AI]at hr;obtain⟨gT,tc,rfl⟩:∃gT tc,tv=.slice (some ⟨gT,0,none⟩) T.length tc:=by
  obtain⟨_,_,g2,_⟩:=hr.row;obtain⟨g,c,e,_⟩:=g2.form h0;exact⟨g,c,e⟩
 have dm:gT<w1.heap.size:=Qhi hr.row rfl;have q8:Below w1.heap.size w1 (w1.alloc (.cells #[.slice (some ⟨gT,0,none⟩) T.length tc] 27)):=Bq;have gi:=hr.new q8;have hZ:=Holds.new w1 #[.slice (some ⟨gT,0,none⟩) T.length tc] 27;obtain⟨pv,p0,Gm,JI,GG,gB,G8⟩:=gi.put at_ gj;have ja:∃cs,Holds (w1.alloc (.cells #[.slice (some ⟨gT,0,none⟩) T.length tc] 27)) gT cs 46:=(QLd gi.row rfl).2;have oF:pv.ownBlock≠some w1.heap.size:=fun e=>Qla Gm.1 hZ (by decide) e;have Hc:Below w.heap.size w w1:=He.trans (Hb.mono (by simp;omega));have Hg:=Hc.trans (q8.mono Hc.size);have cS:=((xI.fr Hb).fr q8);have jm:w.heap.size≤((w.alloc (.cells #[.slice a T.length cap] 27)).alloc (.cells #[.slice none 0 0] 27)).heap.size:=by simp;omega
 have jo:((w.alloc (.cells #[.slice a T.length cap] 27)).alloc (.cells #[.slice none 0 0] 27)).heap.size≤w1.heap.size:=Hb.size;generalize((w.alloc (.cells #[.slice a T.length cap] 27)).alloc (.cells #[.slice none 0 0] 27)).heap.size=b2 at *
 have kF:Hid (∀wx,Qaa (fun _=>False) (w1.alloc (.cells #[.slice (some ⟨gT,0,none⟩) T.length tc] 27)) wx→Calls prog fn (#[pv]++caps) wx fun e w'=>∃rv,e=.returned rv∧Qna w' b2 rv qs∧Qaa (fun b=>pv.ownBlock=some b) wx w'):=
  hid (fun wx k=>K6.o b2 pv wx (Hg.trans (k.below Hg.size (fun _ _ e=>e))) jm (Nat.le_trans jo (Nat.le_trans (by simp) k.size)) ⟨Qca Gm.1 k (fun _ _ e=>e),Gm.2⟩)
 have Hi:∀b,pv.ownBlock=some b→w.heap.size≤b∧∃cur,Holds (w1.alloc (.cells #[.slice (some ⟨gT,0,none⟩) T.length tc] 27)) b cur 49:=fun b e=>by
  obtain⟨q1,q2⟩:=Qic Gm.1 e;exact⟨by omega,q2⟩
 have aJ:w.heap.size≤gT:=by have:=(QLd gi.row (g:=gT) rfl).1;omega
 have Hm:w1.heap.size≠gT:=by omega
 have zV:pv.ownBlock≠some (w.heap.size+1):=fun e=>by
  obtain⟨_,cur,q⟩:=Hi _ e;exact QSa q cS (by decide) rfl
 have tN:w.heap.size+1≠gT:=fun e=>by
  obtain⟨cs,q⟩:=ja;exact QSa cS q (by decide) e
 clear hr xD bK He xI zX K6 M8 gi Hc Gm yB;go_wp2_with fail;generalize hWe:w1.alloc (.cells #[.slice (some ⟨gT,0,none⟩) T.length tc] 27)=W at *
 refine wp_region_any (by kernel_rfl) ?_;refine QUa (ops':=Q4e 2) (by kernel_rfl) ?_;refine QKl b2 w1.heap.size gT T.length tc at_ fn caps pv qs (T.set at_ ⟨T[at_].parent,T[at_].name,qs⟩) W _ _ rfl gj oF Hm JI ja rfl rfl rfl gB JG kF (fun wx rv h k=>G8 wx rv qs h k) ⟨hZ,(Qaa.refl _ _).drew⟩ ((Qaa.refl _ _).drew) ?_;intro c w2 gI HJ g8;obtain⟨y15,y16,y17,y18,y19,y20,y21,y22,y23,y24,y25,y26,y27,hc⟩:=gI.ex [15,16,17,18,19,20,21,22,23,24,25,26,27] (by kernel_rfl);subst hc;simp only[List.setIfInBounds_toArray,List.set_cons_zero,List.set_cons_succ];have kW:=HJ.2;have am:=cS.keeps kW (fun e=>by rcases e with e|e;exact zV e;exact tN e);have Hu:Below w.heap.size w w2:=Hg.trans (kW.below Hg.size (fun i hi e=>by
  rcases e with e|e
  ·have:=(Hi i e).1;omega
  omega))
 have z0:=HJ.1.cell 0;have r0:=am.cell 0;have rf:=am.free 0;have Hp:=(g8.base jm).set am (by decide) (by decide) 0 (.slice (some ⟨gT,0,none⟩) T.length tc);have q0:=(am.set 0 (.slice (some ⟨gT,0,none⟩) T.length tc)).cell 0;have H5:=Hu.setCell (p:=⟨w.heap.size+1,0,none⟩) (by simp) (.slice (some ⟨gT,0,none⟩) T.length tc);have HF:=hid (And.intro Hp H5);clear Hp H5 HJ g8 kW am cS hZ Hg Hu kF gB G8 ja Hi gI HT;go_wp2_with fail;exact bodyPost_ret (v:=.agg #[.slice (some ⟨gT,0,none⟩) T.length tc]) (by simp[results,Tryz.results115,go_sem,q0]) rfl ⟨_,rfl,HF.o⟩
noncomputable def Qof(n:Nat):Array Oper:=(QPa (Tryz.f83.body.getD .skip) n).getD #[]
theorem Qgv:Q0b .any (Qof 6)=true:=by kernel_rfl
theorem Q9g:QRb (Qof 6)=true:=by kernel_rfl
theorem Qms:(Qof 6).size=14:=by kernel_rfl
def QKg(X g o n cap at_ _:Nat)(nd:Qba)(pa:Option Addr)(pc:Nat)(name:ByteArray)(Nk No:Nat)(j:Nat):Value→World→Prop:=match j with
 | 0=>fun u _=>u=.pointer (some ⟨X,0,none⟩)
 | 1=>fun u _=>u=.slice (some ⟨g,o,none⟩) n cap
 | 2=>fun u _=>u=.int .i64 at_
 | 3=>fun u _=>u=.pointer (some ⟨g,o+at_*3,none⟩)
 | 4=>fun u _=>u=.agg #[.int .i64 nd.parent,.string nd.name,.slice pa nd.props.length pc]
 | 5=>fun u _=>u=.string name
 | 6=>fun u _=>u=.tuple #[.int .i64 (Qmb nd.props name),.bool (Qtc nd.props name)]
 | 7=>fun u _=>u=.tuple #[.int .i64 (Qmb nd.props name),.bool (Qtc nd.props name)]
 | 8=>fun u _=>u=.int .i64 (Qmb nd.props name)
 | 9=>fun u _=>u=.bool (Qtc nd.props name)
 | 10=>fun u w=>u=.pointer (some ⟨Nk,0,none⟩)∧∃x,Holds w Nk #[x] 3
 | 11=>fun u w=>u=.pointer (some ⟨No,0,none⟩)∧∃x,Holds w No #[x] 4
 | 12=>fun _ w=>Holds w Nk #[.int .i64 (Qmb nd.props name)] 3
 | 13=>fun _ w=>Holds w No #[.bool (Qtc nd.props name)] 4
 | _=>fun _ _=>True
section
variable{X g o n cap at_ bn:Nat}{nd:Qba}{pa:Option Addr}{pc:Nat}{name:ByteArray}{Nk No:Nat}{w w':World}{j:Nat}{u:Value}
theorem QKg.new(h:QKg X g o n cap at_ bn nd pa pc name Nk No j u w)(k:Below w.heap.size w w'):QKg X g o n cap at_ bn nd pa pc name Nk No j u w':=by
 unfold QKg at *
 have kk:=Qaa.of_fresh k (fun _=>False);split at h
 all_goals first
  | exact h
  | exact⟨h.1,h.2.choose,h.2.choose_spec.keeps kk (fun e=>e)⟩
  | exact Holds.keeps h kk (fun e=>e)
theorem QKg.ghostNk{N2:Nat}(h:QKg X g o n cap at_ bn nd pa pc name Nk No j u w)(gR:j≠10)(MC:j≠12):QKg X g o n cap at_ bn nd pa pc name N2 No j u w:=by
 unfold QKg at *
 split at h
 all_goals first
  | exact absurd rfl gR
  | exact absurd rfl MC
  | exact h
theorem QKg.ghostNo{N2:Nat}(h:QKg X g o n cap at_ bn nd pa pc name Nk No j u w)(i2:j≠11)(M3:j≠13):QKg X g o n cap at_ bn nd pa pc name Nk N2 j u w:=by
 unfold QKg at *
 split at h
 all_goals first
  | exact absurd rfl i2
  | exact absurd rfl M3
  | exact h
theorem QKg.putNk{x:Value}(h:QKg X g o n cap at_ bn nd pa pc name Nk No j u w)(hH:Holds w Nk #[x] 3):QKg X g o n cap at_ bn nd pa pc name Nk No j u (w.setCell ⟨Nk,0,none⟩ (.int .i64 (Qmb nd.props name))):=by
 unfold QKg at *
 split at h
 all_goals first
  | exact h
  | exact⟨h.1,_,hH.set 0 _⟩
  | exact hH.set 0 _
  | exact⟨h.1,h.2.choose,h.2.choose_spec.other _ _ (QSa h.2.choose_spec hH (by decide))⟩
  | exact Holds.other h _ _ (QSa h hH (by decide))
theorem QKg.putNo{x:Value}(h:QKg X g o n cap at_ bn nd pa pc name Nk No j u w)(hH:Holds w No #[x] 4):QKg X g o n cap at_ bn nd pa pc name Nk No j u (w.setCell ⟨No,0,none⟩ (.bool (Qtc nd.props name))):=by
 unfold QKg at *
 split at h
 all_goals first
  | exact h
  | exact⟨h.1,_,hH.set 0 _⟩
  | exact hH.set 0 _
  | exact⟨h.1,h.2.choose,h.2.choose_spec.other _ _ (QSa h.2.choose_spec hH (by decide))⟩
  | exact Holds.other h _ _ (QSa h hH (by decide))
end
theorem Qzo{Q:Exit→Act→World→Prop}(X g o n cap at_ bn:Nat)(nd:Qba)(pa:Option Addr)(pc:Nat)(name:ByteArray)(W w:World)(A:Act)(hsz:A.tmps.size=60)(gj:at_<n)(GG:g<W.heap.size)
 (hXW:Holds W X #[.slice (some ⟨g,o,none⟩) n cap] 27) (hnW:Holds W bn #[.string name] 9)
 (q0:W.cell? ⟨g,o+at_*3,none⟩=some (.int .i64 nd.parent)) (q1:W.cell? ⟨g,o+at_*3+1,none⟩=some (.string nd.name)) (q2:W.cell? ⟨g,o+at_*3+2,none⟩=some (.slice pa nd.props.length pc))
 (ax:A.tmps.getD 4 undef=.pointer (some ⟨X,0,none⟩)) (aa:A.tmps.getD 10 undef=.int .i64 at_) (an:A.tmps.getD 6 undef=.pointer (some ⟨bn,0,none⟩))
 (Gm:Hid (∀wx,Below W.heap.size W wx→Calls prog 114 #[.agg #[.int .i64 nd.parent,.string nd.name,.slice pa nd.props.length pc],.string name] wx fun e w'=>e=.returned (.tuple #[.int .i64 (Qmb nd.props name),.bool (Qtc nd.props name)])∧Below wx.heap.size wx w'))
 (hS:Below W.heap.size W w)
 (hQ:∀c w' Nk No,Qpb (Qof 6) A c→Below W.heap.size W w'→c.tmps.getD 12 undef=.pointer (some ⟨Nk,0,none⟩)→Holds w' Nk #[.int .i64 (Qmb nd.props name)] 3→c.tmps.getD 13 undef=.pointer (some ⟨No,0,none⟩)→Holds w' No #[.bool (Qtc nd.props name)] 4→W.heap.size≤Nk→W.heap.size≤No→Q .normal c w') :
 wpAny prog .any (Qof 6) Q (Qof 6).size (Array.replicate (Qof 6).size false) A w:=by
 refine QNa (fun l c wx=>∃Nk No,QCd (Qof 6) A (QKg X g o n cap at_ bn nd pa pc name Nk No) (fun wx=>Below W.heap.size W wx) l c wx∧W.heap.size≤Nk∧W.heap.size≤No) Qgv ?hend ?Hk _ _ _ _ (by simp) (by simp) ⟨W.heap.size,W.heap.size,QCd.start hS,Nat.le_refl _,Nat.le_refl _⟩
 case hend=>
  rintro l c wx ⟨Nk,No,hI,my,mz⟩ hl;have hh:∀k,k<14→l.getD k false=true:=fun k hk=>hl k (by rw[Qms];exact hk);obtain⟨e10,_⟩:c.tmps.getD 12 undef=.pointer (some ⟨Nk,0,none⟩)∧∃x,Holds wx Nk #[x] 3:=hI.fact 10 12 rfl (hh 10 (by decide));obtain⟨e11,_⟩:c.tmps.getD 13 undef=.pointer (some ⟨No,0,none⟩)∧∃x,Holds wx No #[x] 4:=hI.fact 11 13 rfl (hh 11 (by decide));have MC:Holds wx Nk #[.int .i64 (Qmb nd.props name)] 3:=hI.2.2.2 12 (by rw[Qms];decide) (hh 12 (by decide));have M3:Holds wx No #[.bool (Qtc nd.props name)] 4:=hI.2.2.2 13 (by rw[Qms];decide) (hh 13 (by decide));exact hQ c wx Nk No hI.1 hI.2.1 e10 MC e11 M3 my mz
 intro l c wx hI i' op ho hl Ha K' hK';obtain⟨Nk,No,hI,my,mz⟩:=hI;have Jl:i'<14:=by rw[←Qms];exact(Array.getElem?_eq_some_iff.1 ho).1
 simp only[Qof,QPa,Tryz.f83,Option.getD_some,reduceIte,Nat.reduceEqDiff]at ho;have hS:=hI.2.1;have uE:(at_:Int)<n:=by omega
 have im:(0:Int)≤at_:=by omega
 have sx:=(hI.slot 4 (by kernel_rfl)).trans ax;have sa:=(hI.slot 10 (by kernel_rfl)).trans aa;have sn:=(hI.slot 6 (by kernel_rfl)).trans an;simp only[Array.getD_eq_getD_getElem?]at sx sa sn;have GB:i'=0∨i'=1∨i'=2∨i'=3∨i'=4∨i'=5∨i'=6∨i'=7∨i'=8∨i'=9∨i'=10∨i'=11∨i'=12∨i'=13:=by omega
 rcases GB with rfl|rfl|rfl|rfl|rfl|rfl|rfl|rfl|rfl|rfl|rfl|rfl|rfl|rfl
 all_goals cases ho
 ·go_simp;exact hK' _ _ ⟨Nk,No,hI.step Q9g 0 29 rfl (by rw[hsz];decide) _ _ rfl Ha hS (fun _ _ h=>h) rfl,my,mz⟩
 ·have e0:=gE (hI.fact 0 29 rfl (Qma Ha 0 (by kernel_rfl)):c.tmps.getD 29 undef=.pointer (some ⟨X,0,none⟩));have hX:=(hXW.fr hS).cell 0;go_simp;exact hK' _ _ ⟨Nk,No,hI.step Q9g 1 30 rfl (by rw[hsz];decide) _ _ rfl Ha hS (fun _ _ h=>h) rfl,my,mz⟩
 ·go_simp;exact hK' _ _ ⟨Nk,No,hI.step Q9g 2 31 rfl (by rw[hsz];decide) _ _ rfl Ha hS (fun _ _ h=>h) rfl,my,mz⟩
 ·have e1:=gE (hI.fact 1 30 rfl (Qma Ha 1 (by kernel_rfl)):c.tmps.getD 30 undef=.slice (some ⟨g,o,none⟩) n cap);have e2:=gE (hI.fact 2 31 rfl (Qma Ha 2 (by kernel_rfl)):c.tmps.getD 31 undef=.int .i64 at_);go_simp;exact hK' _ _ ⟨Nk,No,hI.step Q9g 3 32 rfl (by rw[hsz];decide) _ _ rfl Ha hS (fun _ _ h=>h) rfl,my,mz⟩
 ·have e3:=gE (hI.fact 3 32 rfl (Qma Ha 3 (by kernel_rfl)):c.tmps.getD 32 undef=.pointer (some ⟨g,o+at_*3,none⟩));have c0:=(hS.cell (p:=⟨g,o+at_*3,none⟩) GG).trans q0;have c1:=(hS.cell (p:=⟨g,o+at_*3+1,none⟩) GG).trans q1;have c2:=(hS.cell (p:=⟨g,o+at_*3+2,none⟩) GG).trans q2;go_simp;exact hK' _ _ ⟨Nk,No,hI.step Q9g 4 33 rfl (by rw[hsz];decide) _ _ rfl Ha hS (fun _ _ h=>h) rfl,my,mz⟩
 ·have hX:=(hnW.fr hS).cell 0;go_simp;exact hK' _ _ ⟨Nk,No,hI.step Q9g 5 34 rfl (by rw[hsz];decide) _ _ rfl Ha hS (fun _ _ h=>h) rfl,my,mz⟩
 ·have e4:=gE (hI.fact 4 33 rfl (Qma Ha 4 (by kernel_rfl)):c.tmps.getD 33 undef=.agg #[.int .i64 nd.parent,.string nd.name,.slice pa nd.props.length pc]);have e5:=gE (hI.fact 5 34 rfl (Qma Ha 5 (by kernel_rfl)):c.tmps.getD 34 undef=.string name);go_simp;refine(Gm.o wx hS).mono ?_;rintro e w2 ⟨rfl,Hc⟩;go_simp;have HJ:Below W.heap.size W w2:=hS.trans (Hc.mono hS.size);exact hK' _ _ ⟨Nk,No,hI.step Q9g 6 35 rfl (by rw[hsz];decide) _ _ rfl Ha HJ (fun _ _ h=>QKg.new h Hc) rfl,my,mz⟩
 ·have e6:=gE (hI.fact 6 35 rfl (Qma Ha 6 (by kernel_rfl)):c.tmps.getD 35 undef=.tuple #[.int .i64 (Qmb nd.props name),.bool (Qtc nd.props name)]);go_simp;exact hK' _ _ ⟨Nk,No,hI.step Q9g 7 28 rfl (by rw[hsz];decide) _ _ rfl Ha hS (fun _ _ h=>h) rfl,my,mz⟩
 ·have e7:=gE (hI.fact 7 28 rfl (Qma Ha 7 (by kernel_rfl)):c.tmps.getD 28 undef=.tuple #[.int .i64 (Qmb nd.props name),.bool (Qtc nd.props name)]);go_simp;exact hK' _ _ ⟨Nk,No,hI.step Q9g 8 36 rfl (by rw[hsz];decide) _ _ rfl Ha hS (fun _ _ h=>h) rfl,my,mz⟩
 ·have e7:=gE (hI.fact 7 28 rfl (Qma Ha 7 (by kernel_rfl)):c.tmps.getD 28 undef=.tuple #[.int .i64 (Qmb nd.props name),.bool (Qtc nd.props name)]);go_simp;exact hK' _ _ ⟨Nk,No,hI.step Q9g 9 37 rfl (by rw[hsz];decide) _ _ rfl Ha hS (fun _ _ h=>h) rfl,my,mz⟩
 ·go_simp;have Hc:Below wx.heap.size wx (wx.alloc (.cells #[.int .i64 0] 3)):=Bq;have HJ:=hS.trans (Hc.mono hS.size);have us:=hI.2.2.1.2.unlisted hl (j:=12) (by kernel_rfl);have JB:W.heap.size≤wx.heap.size:=hS.size;have hJ:=hI.other (F':=QKg X g o n cap at_ bn nd pa pc name wx.heap.size No) (fun j hj u hF=>hF.ghostNk (Q1a hj hl) (Q1a hj us));exact hK' _ _ ⟨wx.heap.size,No,hJ.step Q9g 10 12 rfl (by rw[hsz];decide) _ _ rfl Ha HJ (fun _ _ h=>QKg.new h Hc) ⟨rfl,_,Holds.new _ _ _⟩,JB,mz⟩
 ·go_simp;have Hc:Below wx.heap.size wx (wx.alloc (.cells #[.bool false] 4)):=Bq;have HJ:=hS.trans (Hc.mono hS.size);have us:=hI.2.2.1.2.unlisted hl (j:=13) (by kernel_rfl);have JB:W.heap.size≤wx.heap.size:=hS.size;have hJ:=hI.other (F':=QKg X g o n cap at_ bn nd pa pc name Nk wx.heap.size) (fun j hj u hF=>hF.ghostNo (Q1a hj hl) (Q1a hj us));exact hK' _ _ ⟨Nk,wx.heap.size,hJ.step Q9g 11 13 rfl (by rw[hsz];decide) _ _ rfl Ha HJ (fun _ _ h=>QKg.new h Hc) ⟨rfl,_,Holds.new _ _ _⟩,my,JB⟩
 ·obtain⟨ep,x,mx⟩:c.tmps.getD 12 undef=.pointer (some ⟨Nk,0,none⟩)∧∃x,Holds wx Nk #[x] 3:=hI.fact 10 12 rfl (Qma Ha 10 (by kernel_rfl));simp only[Array.getD_eq_getD_getElem?]at ep;have e8:=gE (hI.fact 8 36 rfl (Qma Ha 8 (by kernel_rfl)):c.tmps.getD 36 undef=.int .i64 (Qmb nd.props name));have n0:wx.cell? ⟨Nk,0,none⟩=some x:=mx.cell 0;have n1:wx.frozen? ⟨Nk,0,none⟩=false:=mx.free 0;go_simp;have HJ:Below W.heap.size W (wx.setCell ⟨Nk,0,none⟩ (.int .i64 (Qmb nd.props name))):=hS.setCell (p:=⟨Nk,0,none⟩) my _;exact hK' _ _ ⟨Nk,No,hI.stepN 12 rfl _ rfl Ha HJ (fun _ _ h=>h.putNk mx) (mx.set 0 _),my,mz⟩
 obtain⟨ep,x,mx⟩:c.tmps.getD 13 undef=.pointer (some ⟨No,0,none⟩)∧∃x,Holds wx No #[x] 4:=hI.fact 11 13 rfl (Qma Ha 11 (by kernel_rfl));simp only[Array.getD_eq_getD_getElem?]at ep;have e9:=gE (hI.fact 9 37 rfl (Qma Ha 9 (by kernel_rfl)):c.tmps.getD 37 undef=.bool (Qtc nd.props name));have n0:wx.cell? ⟨No,0,none⟩=some x:=mx.cell 0;have n1:wx.frozen? ⟨No,0,none⟩=false:=mx.free 0;go_simp;have HJ:Below W.heap.size W (wx.setCell ⟨No,0,none⟩ (.bool (Qtc nd.props name))):=hS.setCell (p:=⟨No,0,none⟩) mz _;exact hK' _ _ ⟨Nk,No,hI.stepN 13 rfl _ rfl Ha HJ (fun _ _ h=>h.putNo mx) (mx.set 0 _),my,mz⟩
theorem Qsq(l:List Qqa)(p:Qqa):(QOc l p).length=l.length+1-(if Qtc l p.name=true then 1 else 0):=by
 have h1:=QJk l p.name;have h2:=Qpm l p.name;have h3:QYe l p.name=Qmb l p.name+if Qtc l p.name=true then 1 else 0:=rfl;unfold QOc;simp only[List.length_append,List.length_take,List.length_cons,List.length_drop];cases h:Qtc l p.name with
 | true=>rw[h,if_pos rfl]at h3;simp only[if_true];omega
 | false=>rw[h,if_neg (by decide)]at h3;rw[if_neg (by decide)];omega
theorem Qqd{T:List Qba}(hc:Qia T=0)(k:Nat)(hk:k<T.length):Qjd T[k].props=true:=by
 have hp:=QOa hc;have h:=((QJg (QBa hp.2.1) (QTb hp.2.1 (by omega))).1 hp.2.2.1).1 k hk;rw[Qfb hk]at h;exact h
theorem QCt{n:Qba}(h:Qbf n=true)(p:Qqa):Qbf (Qge n p)=(decide ((QOc n.props p).length≤24)&&decide (p.value.size≤256)):=by
 unfold Qbf at *
 rw[Bool.and_eq_true]at h;have ha:=List.all_eq_true.1 h.2;show(decide ((QOc n.props p).length≤24)&&(QOc n.props p).all fun p=>decide (p.value.size≤256))=_
 congr 1
 unfold QOc;rw[List.all_append,List.all_cons];rw[List.all_eq_true.2 (fun q hq=>ha q (List.mem_of_mem_take hq)),List.all_eq_true.2 (fun q hq=>ha q (List.mem_of_mem_drop hq))];simp
theorem QJq{T:List Qba}(hl:Qza T=true){k:Nat}(hk:k<T.length)(p:Qqa):Qza (QJb T k p)=(decide ((QOc T[k].props p).length≤24)&&decide (p.value.size≤256)):=by
 have hs:QJb T k p=T.set k (Qge T[k] p):=by unfold QJb;rw[List.getElem?_eq_getElem hk]
 rw[hs];unfold Qza at *
 rw[Bool.and_eq_true]at hl;have ha:=List.all_eq_true.1 hl.2;rw[List.length_set,hl.1,Bool.true_and,←QCt (ha _ (List.getElem_mem hk))];cases hf:Qbf (Qge T[k] p)with
 | true=>
  rw[List.all_eq_true];intro q hq;rcases List.mem_or_eq_of_mem_set hq with h|h
  ·exact ha q h
  rw[h];exact hf
 | false=>
  rw[List.all_eq_false];exact⟨_,List.mem_set hk _,by simp[hf]⟩
theorem QIq{T:List Qba}{s name value:ByteArray}{k:Nat}(hb:Qua T s=((k:Int),0)):Qid T s name value=if Q6a name=false then([],1)else if Qza (QJb T k ⟨name,value⟩)=false then([],3)else(QJb T k ⟨name,value⟩,0):=by
 unfold Qid;rw[hb,if_neg (by simp)];rfl
theorem QPl:∀args w,(callFunc 116 args).run prog w=.ok (.enter 116 args) w:=enters_of func116 (by kernel_rfl) rfl
theorem Qrs(R:Nat→Prop)(v:Value)(T:List Qba)(s name value:ByteArray)(w:World)(hT:Qoa R w v T)(ko:name.size≤9223372036854775807)(JL:value.size≤9223372036854775807) :
 Calls prog 83 #[.agg #[v],.string s,.string name,.string value] w (Qgc (Qid T s name value) w):=by
 obtain⟨a,cap,rfl,gy,gh⟩:=hT.shape;have HT:=hid hT.bound;clear hT;have Gr:=fun wx hx=>QGg (fun g=>g<w.heap.size) (.slice a T.length cap) T s wx hx;obtain⟨W0,gM⟩:∃W0,W0=(((w.alloc (.cells #[.slice a T.length cap] 27)).alloc (.cells #[.string name] 9)).alloc (.cells #[.string value] 9)).alloc (.cells #[.slice none 0 0] 27):=⟨_,rfl⟩;have He:Below w.heap.size w W0:=by rw[gM];exact(((Bq).alloc (by simp) _).alloc (by simp;omega) _).alloc (by simp;omega) _
 have Gb:Holds W0 w.heap.size #[.slice a T.length cap] 27:=by rw[gM];exact(((Holds.new w #[.slice a T.length cap] 27).alloc _).alloc _).alloc _
 have Kh:Holds W0 (w.heap.size+1) #[.string name] 9:=by rw[gM];exact((Holds.newAt (w:=w.alloc (.cells #[.slice a T.length cap] 27)) (B:=w.heap.size+1) (by simp) #[.string name] 9).alloc _).alloc _
 have oz:Holds W0 (w.heap.size+1+1) #[.string value] 9:=by rw[gM];exact(Holds.newAt (w:=(w.alloc (.cells #[.slice a T.length cap] 27)).alloc (.cells #[.string name] 9)) (B:=w.heap.size+1+1) (by simp) #[.string value] 9).alloc _
 have gX:Holds W0 (w.heap.size+1+1+1) #[.slice none 0 0] 27:=by rw[gM];exact Holds.newAt (w:=((w.alloc (.cells #[.slice a T.length cap] 27)).alloc (.cells #[.string name] 9)).alloc (.cells #[.string value] 9)) (B:=w.heap.size+1+1+1) (by simp) #[.slice none 0 0] 27
 have Ki:Qoa (fun g=>g<w.heap.size) W0 (.slice a T.length cap) T:=HT.o.new He;have Js:=He.size;have dJ:=gX.lt;rcases Qkb T s with⟨Hl,gR⟩|⟨gd,k,hk,G0,Gt⟩
 ·have hE:=hid (show Qid T s name value=([],(Qua T s).2)from by unfold Qid;rw[if_pos Hl]);have aT:((Qua T s).2 != 0)=true:=by simpa using Hl
  rw[gR]at Gr;have kK:=hid Gr;clear Gr Hl gR;generalize(Qua T s).2=c at *
  go_enter func83,ntmps83;go_wp2_with fail;rw[←gM];refine(kK.o _ (by exact Ki)).mono ?_;rintro e w1 ⟨rfl,Hb⟩;have Hm:=gX.fr Hb;have Hc:=He.trans (Hb.mono Js);have z0:=Hm.cell 0;have zf:=Hm.free 0;go_wp2_with fail;have q0:(w1.setCell ⟨w.heap.size+1+1+1,0,none⟩ (.slice none 0 0)).cell? ⟨w.heap.size+1+1+1,0,none⟩=some (.slice none 0 0):=(Hm.set 0 _).cell 0;exact bodyPost_ret (v:=.tuple #[.agg #[.slice none 0 0],.int .i64 c]) (by simp[results,Tryz.results83,go_sem,q0]) rfl ⟨_,by rw[hE.o],by rw[hE.o];exact Qda.nil _ _,Hc.setCell (p:=⟨w.heap.size+1+1+1,0,none⟩) (by simp;omega) _⟩
 rw[G0]at Gr;have kK:=hid Gr;have hE:=hid (QIq (name:=name) (value:=value) G0);have mD:=hid (fun wx=>Qyc name wx ko);have ir:=QQa gd;have gS:=(Qlb ir).2;have gz:=(Q4b gd) T[k] (List.getElem_mem hk);have ki:=hid gd;clear Gr G0 gd;cases Kv:Q6a name with
 | false=>
  have hF:=hid (show Qid T s name value=([],1)from by rw[hE.o,if_pos Kv]);have bC:=hid (fun wx=>by have:=mD.o wx;rw[Kv]at this;exact this);clear mD Kv hE;go_enter func83,ntmps83;go_wp2_with fail;rw[←gM];refine(kK.o _ (by exact Ki)).mono ?_;rintro e w1 ⟨rfl,Hb⟩;have Hm:=gX.fr Hb;have Jc:=Kh.fr Hb;have Hc:=He.trans (Hb.mono Js);have z0:=Hm.cell 0;have zf:=Hm.free 0;have y0:=Jc.cell 0;go_wp2_with fail;refine(bC.o _).mono ?_;rintro e w2 ⟨rfl,rfl⟩;go_wp2_with fail;have q0:(w1.setCell ⟨w.heap.size+1+1+1,0,none⟩ (.slice none 0 0)).cell? ⟨w.heap.size+1+1+1,0,none⟩=some (.slice none 0 0):=(Hm.set 0 _).cell 0;exact bodyPost_ret (v:=.tuple #[.agg #[.slice none 0 0],.int .i64 1]) (by simp[results,Tryz.results83,go_sem,q0]) rfl ⟨_,by rw[hF.o],by rw[hF.o];exact Qda.nil _ _,Hc.setCell (p:=⟨w.heap.size+1+1+1,0,none⟩) (by simp;omega) _⟩
 | true=>
  have hF:=hid (show Qid T s name value=if Qza (QJb T k ⟨name,value⟩)=false then([],3)else(QJb T k ⟨name,value⟩,0)from by rw[hE.o,if_neg (by rw[Kv];decide)]);have bC:=hid (fun wx=>by have:=mD.o wx;rw[Kv]at this;exact this);clear mD Kv hE;have mW:=QJq ir hk ⟨name,value⟩;rw[Qsq]at mW;have Mh:QJb T k ⟨name,value⟩=T.set k ⟨T[k].parent,T[k].name,QOc T[k].props ⟨name,value⟩⟩:=by unfold QJb;rw[List.getElem?_eq_getElem hk];rfl
  have sJ:=hid Mh;have Ma:=hid mW;clear Mh mW;have k8:=Qqd ki.o k hk;go_enter func83,ntmps83;go_wp2_with fail;rw[←gM];refine(kK.o _ (by exact Ki)).mono ?_;rintro e w1 ⟨rfl,Hb⟩;have kk1:=Qaa.of_fresh Hb (fun _=>False);have Hm:=gX.keeps kk1 (fun e=>e);have Jc:=Kh.keeps kk1 (fun e=>e);have Hr:=Gb.keeps kk1 (fun e=>e);have xM:=oz.keeps kk1 (fun e=>e);have GU:=Ki.new Hb;have Hc:=He.trans (Hb.mono Js);have y0:=Jc.cell 0;clear gX Kh Gb oz Ki He gM Hb kk1 kK;go_wp2_with fail;refine(bC.o _).mono ?_;rintro e w2 ⟨rfl,rfl⟩;obtain⟨g,o,pa,pc,rC,hg,q0,q1,q2,bK,KQ,vo,ve,KH,bU⟩:=GU.at k hk;subst rC;have mj:=hid (fun(wx:World) (hx:Below w1.heap.size w1 wx)=>Qjg (fun g=>g<w.heap.size) (.slice pa T[k].props.length pc) T[k] name wx (bK.new hx) k8 gz);have dm:g<w1.heap.size:=hg;have Gn:=Hc.size;clear bK;go_wp2_with fail;refine wp_region_any (by kernel_rfl) ?_;refine QUa (ops':=Qof 6) (by kernel_rfl) ?_;refine Qzo w.heap.size g o T.length cap k (w.heap.size+1) T[k] pa pc name w1 w1.drew _ rfl hk dm Hr Jc q0 q1 q2 rfl rfl rfl mj ((Below.refl _ _).drew) ?_;intro c w3 Nk No gI Hg ek my eo mz kX KG;obtain⟨y12,y13,y28,y29,y30,y31,y32,y33,y34,y35,y36,y37,hc⟩:=gI.ex [12,13,28,29,30,31,32,33,34,35,36,37] (by kernel_rfl);subst hc;simp only[List.setIfInBounds_toArray,List.set_cons_zero,List.set_cons_succ]at ek eo ⊢;have ek':y12=.pointer (some ⟨Nk,0,none⟩):=ek;have eo':y13=.pointer (some ⟨No,0,none⟩):=eo;subst ek';subst eo';have kk3:=Qaa.of_fresh Hg (fun _=>False);have gf:=Hm.keeps kk3 (fun e=>e);have GA:=Hr.keeps kk3 (fun e=>e)
  have JA:=Jc.keeps kk3 (fun e=>e);have tV:=xM.keeps kk3 (fun e=>e);have Gj:=GU.new Hg;have Hu:=Hc.trans (Hg.mono Hc.size);have q2':=(Hg.cell (p:=⟨g,o+k*3+2,none⟩) dm).trans q2;have x0:=GA.cell 0;have z0:=gf.cell 0;have zf:=gf.free 0;have v0:=tV.cell 0;have o0:=mz.cell 0;have jS:Qod ⟨name,value⟩:=⟨ko,JL⟩;have gG:∀base u wx,Below w3.heap.size w3 wx→w3.heap.size≤base→base≤wx.heap.size→Qna wx base u T[k].props→Calls prog 116 (#[u]++#[.pointer (some ⟨No,0,none⟩),.pointer (some ⟨Nk,0,none⟩),.pointer (some ⟨w.heap.size+1,0,none⟩),.pointer (some ⟨w.heap.size+1+1,0,none⟩)]) wx fun e w'=>∃v',e=.returned v'∧Qna w' base v' (QOc T[k].props ⟨name,value⟩)∧Qaa (fun b=>u.ownBlock=some b) wx w':=
   fun base u wx G9 _ mQ hr=>by
    have kx:=Qaa.of_fresh G9 (fun _=>False);exact QWq base No Nk (w.heap.size+1) (w.heap.size+1+1) u T[k].props name value wx hr gz jS mQ (mz.keeps kx (fun e=>e)) (my.keeps kx (fun e=>e)) (JA.keeps kx (fun e=>e)) (tV.keeps kx (fun e=>e))
  have dd:=hid (Q1g (fun g=>g<w.heap.size) (.slice (some ⟨g,o,none⟩) T.length cap) T k 116 _ (QOc T[k].props ⟨name,value⟩) w3 Gj ki.o hk QPl gG);have MP:=Hu.size;have i8:=hid (show ∀(h:Qza (QJb T k ⟨name,value⟩)=false),Qid T s name value=([],3)from fun h=>by rw[hF.o,if_pos h]);have lj:=hid (show ∀(h:Qza (QJb T k ⟨name,value⟩)=true),Qid T s name value=(T.set k ⟨T[k].parent,T[k].name,QOc T[k].props ⟨name,value⟩⟩,0)from fun h=>by rw[hF.o,if_neg (by rw[h];decide),sJ.o]);have GY:∀x:Value,((w3.setCell ⟨w.heap.size+1+1+1,0,none⟩ x)).cell? ⟨w.heap.size+1+1+1,0,none⟩=some x:=fun x=>(gf.set 0 x).cell 0;have M2:=hid GY;have mN:=hid Hu;have KT:=hid gf;have iq:(k:Int)<T.length:=by omega
  clear GY gG jS GA JA tV Gj my mz Hg kk3 gI ek eo Hr Jc xM Hm GU Hc q0 q1 q2 mj k8 bC y0 Hu gf;by_cases Gg:256<value.size
  ·have gu:Qza (QJb T k ⟨name,value⟩)=false:=by rw[Ma.o];simp;omega
   have cG:=hid (i8.o gu);have qj:decide ((256:Int)<(value.size:Int))=true:=by simp;omega
   clear i8 lj dd;cases gU:Qtc T[k].props name with
   | true=>
    rw[gU]at o0;go_wp2_with fail;exact bodyPost_ret (v:=.tuple #[.agg #[.slice none 0 0],.int .i64 3]) (by simp[results,Tryz.results83,go_sem,M2.o]) rfl ⟨_,by rw[cG.o],by rw[cG.o];exact Qda.nil _ _,mN.o.setCell (p:=⟨w.heap.size+1+1+1,0,none⟩) (by simp;omega) _⟩
   | false=>
    rw[gU]at o0;by_cases jE:T[k].props.length=24
    ·have cE:((T[k].props.length:Int)==24)=true:=by rw[jE];rfl
     go_wp2_with fail;exact bodyPost_ret (v:=.tuple #[.agg #[.slice none 0 0],.int .i64 3]) (by simp[results,Tryz.results83,go_sem,M2.o]) rfl ⟨_,by rw[cG.o],by rw[cG.o];exact Qda.nil _ _,mN.o.setCell (p:=⟨w.heap.size+1+1+1,0,none⟩) (by simp;omega) _⟩
    have cE:((T[k].props.length:Int)==24)=false:=by rw[beq_eq_false_iff_ne];omega
    go_wp2_with fail;exact bodyPost_ret (v:=.tuple #[.agg #[.slice none 0 0],.int .i64 3]) (by simp[results,Tryz.results83,go_sem,M2.o]) rfl ⟨_,by rw[cG.o],by rw[cG.o];exact Qda.nil _ _,mN.o.setCell (p:=⟨w.heap.size+1+1+1,0,none⟩) (by simp;omega) _⟩
  have qj:decide ((256:Int)<(value.size:Int))=false:=by simp;omega
  have hfp:T[k].props.length≤24:=by
   have h:=ir;unfold Qza at h;rw[Bool.and_eq_true]at h;have:=List.all_eq_true.1 h.2 _ (List.getElem_mem hk);unfold Qbf at this;rw[Bool.and_eq_true]at this;exact of_decide_eq_true this.1
  cases gU:Qtc T[k].props name with
  | true=>
   rw[gU]at o0;have aL:Qza (QJb T k ⟨name,value⟩)=true:=by rw[Ma.o,gU];simp;omega
   have oi:=hid (lj.o aL);clear i8 lj;go_wp2_with fail;refine dd.o.mono ?_;rintro e w5 ⟨v5,rfl,aZ,H5⟩;obtain⟨sa,sc,rfl⟩:=Qnc aZ;have gN:=KT.o.fr H5;have z5:=gN.cell 0;have f5:=gN.free 0;have r5:=(aZ.base (mN.o.size)).set gN (by decide) (by decide) 0 (.slice sa (T.set k ⟨T[k].parent,T[k].name,QOc T[k].props ⟨name,value⟩⟩).length sc);have b5:=(mN.o.trans (H5.mono mN.o.size)).setCell (p:=⟨w.heap.size+1+1+1,0,none⟩) (by simp;omega) (.slice sa (T.set k ⟨T[k].parent,T[k].name,QOc T[k].props ⟨name,value⟩⟩).length sc);have c5:=(gN.set 0 (.slice sa (T.set k ⟨T[k].parent,T[k].name,QOc T[k].props ⟨name,value⟩⟩).length sc)).cell 0;have JW:=hid (And.intro r5 (And.intro b5 c5));clear r5 b5 c5 aZ gN H5 dd;generalize(T.set k ⟨T[k].parent,T[k].name,QOc T[k].props ⟨name,value⟩⟩)=T5 at *
   generalize rj:T5.length=n5 at *
   go_wp2_with fail;exact bodyPost_ret (v:=.tuple #[.agg #[.slice sa n5 sc],.int .i64 0]) (by simp[results,Tryz.results83,go_sem,JW.o.2.2]) rfl ⟨_,by rw[oi.o],by rw[oi.o];exact JW.o.1,JW.o.2.1⟩
  | false=>
   rw[gU]at o0;by_cases jE:T[k].props.length=24
   ·have gu:Qza (QJb T k ⟨name,value⟩)=false:=by rw[Ma.o,gU,jE];rfl
    have cG:=hid (i8.o gu);have cE:((T[k].props.length:Int)==24)=true:=by rw[jE];rfl
    clear i8 lj dd;go_wp2_with fail;exact bodyPost_ret (v:=.tuple #[.agg #[.slice none 0 0],.int .i64 3]) (by simp[results,Tryz.results83,go_sem,M2.o]) rfl ⟨_,by rw[cG.o],by rw[cG.o];exact Qda.nil _ _,mN.o.setCell (p:=⟨w.heap.size+1+1+1,0,none⟩) (by simp;omega) _⟩
   have aL:Qza (QJb T k ⟨name,value⟩)=true:=by rw[Ma.o,gU];simp;omega
   have oi:=hid (lj.o aL);have cE:((T[k].props.length:Int)==24)=false:=by rw[beq_eq_false_iff_ne];omega
   clear i8 lj;go_wp2_with fail;refine dd.o.mono ?_;rintro e w5 ⟨v5,rfl,aZ,H5⟩;obtain⟨sa,sc,rfl⟩:=Qnc aZ;have gN:=KT.o.fr H5;have z5:=gN.cell 0;have f5:=gN.free 0;have r5:=(aZ.base (mN.o.size)).set gN (by decide) (by decide) 0 (.slice sa (T.set k ⟨T[k].parent,T[k].name,QOc T[k].props ⟨name,value⟩⟩).length sc);have b5:=(mN.o.trans (H5.mono mN.o.size)).setCell (p:=⟨w.heap.size+1+1+1,0,none⟩) (by simp;omega) (.slice sa (T.set k ⟨T[k].parent,T[k].name,QOc T[k].props ⟨name,value⟩⟩).length sc);have c5:=(gN.set 0 (.slice sa (T.set k ⟨T[k].parent,T[k].name,QOc T[k].props ⟨name,value⟩⟩).length sc)).cell 0;have JW:=hid (And.intro r5 (And.intro b5 c5));clear r5 b5 c5 aZ gN H5 dd;generalize(T.set k ⟨T[k].parent,T[k].name,QOc T[k].props ⟨name,value⟩⟩)=T5 at *
   generalize rj:T5.length=n5 at *
   go_wp2_with fail;exact bodyPost_ret (v:=.tuple #[.agg #[.slice sa n5 sc],.int .i64 0]) (by simp[results,Tryz.results83,go_sem,JW.o.2.2]) rfl ⟨_,by rw[oi.o],by rw[oi.o];exact JW.o.1,JW.o.2.1⟩
end Go.Proofs.YtgaboghigefgbaaGreatDoor
open Go
namespace Go.Proofs.YtgaboghigefgbaaGreatDoor
open Go.Proofs.Tryz
open Go.Lib (hid)
theorem QJm{ps:List Qqa}{x:ByteArray}(ha:Qjd ps=true)(hh:Qtc ps x=true):QDa ps x=Qxj ps (Qmb ps x):=by
 have hl:Qmb ps x<ps.length:=by
  by_cases e:Qmb ps x<ps.length
  ·exact e
  rw[QUf (by omega)]at hh;cases hh
 have hx:eqS ps[Qmb ps x].name x=true:=by rw[←Qyk hl];exact hh
 have hs:ps=ps.take (Qmb ps x)++ps[Qmb ps x]::ps.drop (Qmb ps x+1):=by
  rw[←List.drop_eq_getElem_cons hl,List.take_append_drop]
 unfold QDa Qxj
 conv=>lhs;rw[hs]
 rw[List.filter_append,List.filter_cons_of_neg (by simp[hx])]
 congr 1
 ·rw[List.filter_eq_self];intro p hp;obtain⟨j,hj,rfl⟩:=List.getElem_of_mem hp;rw[List.length_take]at hj;rw[List.getElem_take,Qhh ha j (by omega) (.inl (by omega))];rfl
 rw[List.filter_eq_self];intro p hp;obtain⟨j,hj,rfl⟩:=List.getElem_of_mem hp;rw[List.length_drop]at hj;rw[List.getElem_drop,Qhh ha _ (by omega) (.inl (by omega))];rfl
theorem QJs{ps:List Qqa}{x:ByteArray}(ha:Qjd ps=true):(ofT ps x).2=Qtc ps x:=by
 rw[QHs ha];cases Qtc ps x <;> rfl
def Q9a(T:List Qba)(s x:ByteArray):List Qba × Int:=
 if (Qua T s).2≠0 then([],(Qua T s).2)else
  match T[(Qua T s).1.toNat]? with
  | none=>([],0)
  | some n=>if Qtc n.props x=false then([],4)else(T.set (Qua T s).1.toNat ⟨n.parent,n.name,QDa n.props x⟩,0)
theorem Qxe{T:List Qba}{s x:ByteArray}{k:Nat}(hk:k<T.length)(hb:Qua T s=((k:Int),0)):Q9a T s x=if Qtc T[k].props x=false then([],4)else(T.set k ⟨T[k].parent,T[k].name,QDa T[k].props x⟩,0):=by
 unfold Q9a;rw[hb,if_neg (by simp)];simp only[Int.toNat_natCast,List.getElem?_eq_getElem hk]
end Go.Proofs.YtgaboghigefgbaaGreatDoor
open Go
namespace Go.Proofs.YtgaboghigefgbaaGreatDoor
open Go.Proofs.Tryz
open Go.Lib (hid)
def Q5a(T:List Qba)(x:Qga):List Qba × Int:=
 if x.kind=1 then(if (QYa T x.path).2=true then(T,0)else QQc T (Qzb x.path) (Qbd x.path))
 else if (QYa T x.path).2=false then([],4)
 else if x.kind=2 then Qid T x.path x.name x.value
 else if (Q9a T x.path x.name).2=0 then Q9a T x.path x.name else(T,0)
def Qpd:Nat→List Qba→List Qga→List Qba × Int × Int
 | _,T,[]=>(T,0,0)
 | i,T,x::r=>if (Q5a T x).2≠0 then([],i,(Q5a T x).2)else Qpd (i+1) (Q5a T x).1 r
def QCc(T:List Qba)(name:ByteArray)(l:List Qga):List Qba × Int × Int:=
 if Qia T≠0 then([],0,Qia T)else if Qva name l≠0 then([],0,Qva name l)else Qpd 0 T l
end Go.Proofs.YtgaboghigefgbaaGreatDoor
open Go
namespace Go.Proofs.YtgaboghigefgbaaGreatDoor
open Go.Proofs.Tryz
open Go.Lib (hid)
section
variable{L:List Qba}{O:List Nat}
end
end Go.Proofs.YtgaboghigefgbaaGreatDoor
open Go
namespace Go.Proofs.YtgaboghigefgbaaGreatDoor
open Go.Proofs.Tryz
open Go.Lib (hid)
end Go.Proofs.YtgaboghigefgbaaGreatDoor
open Go
namespace Go.Proofs.YtgaboghigefgbaaGreatDoor
open Go.Proofs.Tryz
open Go.Lib (hid)
theorem Qmt{l:List UInt8}(h:QTa l=true):∀x∈l,x≠47:=by
 intro x hx e;subst e;unfold QTa at h;simp only[Bool.and_eq_true]at h;have:=List.all_eq_true.1 h.2 _ hx
 revert this;decide
def Q4d(ns:List (List UInt8)):List UInt8:=ns.flatMap fun n=>47::n
def Q5j(t:List UInt8):Prop:=t=[]∨∃u,t=47::u
theorem Qjl(ns:List (List UInt8)):Q5j (Q4d ns):=by
 cases ns with
 | nil=>exact .inl rfl
 | cons n ns=>exact .inr ⟨n++Q4d ns,rfl⟩
theorem Q1i:∀(n m t u:List UInt8),(∀x∈n,x≠47)→(∀x∈m,x≠47)→Q5j t→Q5j u→n++t=m++u→n=m∧t=u
 | [],[],t,u,_,_,_,_,h=>⟨rfl,h⟩
 | [],y::m,t,u,_,hm,ht,_,h=>by
  rcases ht with rfl|⟨t',rfl⟩
  ·cases h
  injection h with h1 _;exact absurd h1.symm (hm y (List.mem_cons_self ..))
 | x::n,[],t,u,hn,_,_,hu,h=>by
  rcases hu with rfl|⟨u',rfl⟩
  ·cases h
  injection h with h1 _;exact absurd h1 (hn x (List.mem_cons_self ..))
 | x::n,y::m,t,u,hn,hm,ht,hu,h=>by
  injection h with h1 h2;obtain⟨e1,e2⟩:=Q1i n m t u (fun z hz=>hn z (List.mem_cons_of_mem _ hz)) (fun z hz=>hm z (List.mem_cons_of_mem _ hz)) ht hu h2;exact⟨by rw[h1,e1],e2⟩
def NoS(ns:List (List UInt8)):Prop:=∀n∈ns,∀x∈n,x≠47
theorem QKh:∀(ns ms:List (List UInt8)) (r:List UInt8),NoS ns→NoS ms→Q5j r→Q4d ns++r=Q4d ms→∃rest,ms=ns++rest∧r=Q4d rest
 | [],ms,r,_,_,_,h=>⟨ms,rfl,h⟩
 | n::ns,[],r,_,_,_,h=>by cases h
 | n::ns,m::ms,r,hn,hm,hr,h=>by
  have h':n++(Q4d ns++r)=m++Q4d ms:=by
   have:47::(n++Q4d ns)++r=47::(m++Q4d ms):=h;simpa using this
  have ht:Q5j (Q4d ns++r):=by
   rcases Qjl ns with e|⟨u,e⟩
   ·rw[e];exact hr
   rw[e];exact .inr ⟨u++r,rfl⟩
  obtain⟨e1,e2⟩:=Q1i n m _ _ (hn n (List.mem_cons_self ..)) (hm m (List.mem_cons_self ..)) ht (Qjl ms) h';obtain⟨rest,e3,e4⟩:=QKh ns ms r (fun z hz=>hn z (List.mem_cons_of_mem _ hz)) (fun z hz=>hm z (List.mem_cons_of_mem _ hz)) hr e2;exact⟨rest,by rw[e1,e3];rfl,e4⟩
def QDc(T:List Qba)(i:Nat):List (List UInt8):=(pc T i).map fun c=>c.1.data.toList
theorem QPi(T:List Qba)(i:Nat):Q5d (pc T i)=Q4d (QDc T i):=by
 unfold Q5d Q4d QDc QUu;rw[List.flatMap_map]
theorem QTe(T:List Qba):QDc T 0=[]:=rfl
theorem QUb{T:List Qba}(h:Par T){i:Nat}(h0:0<i)(hi:i<T.length):QDc T i=QDc T (QGb T i)++[(Qya T i).data.toList]:=by
 unfold QDc;rw[Qtb h h0 hi,List.map_append];rfl
theorem QDe{T:List Qba}(h:Q3a T=true):∀(n i:Nat),i≤n→i<T.length→NoS (QDc T i):=by
 have hP:=QBa h;intro n
 induction n with
 | zero=>intro i hi _;obtain rfl:i=0:=by omega
         intro n hn;cases hn
 | succ n ih=>
  intro i hi G6;by_cases h0:i=0
  ·subst h0;intro n hn;cases hn
  have hp:=Qib hP (by omega) G6;rw[QUb hP (by omega) G6];intro m hm;rcases List.mem_append.1 hm with hm|hm
  ·exact ih _ (by omega) (by omega) m hm
  simp at hm;subst hm;have:=(Qtd T 0 h i G6).1;rw[Nat.zero_add]at this;unfold QHd at this;rw[if_neg h0,Bool.and_eq_true]at this;rw[QHa G6];exact Qmt this.2
theorem Q1p{T:List Qba}(h:Par T)(hD:Dis T):∀(n i j:Nat),i≤n→i<T.length→j<T.length→QDc T i=QDc T j→i=j:=by
 intro n
 induction n with
 | zero=>
  intro i j hi _ hj e;obtain rfl:i=0:=by omega
  rcases Nat.eq_zero_or_pos j with rfl|h0
  ·rfl
  rw[QTe,QUb h h0 hj]at e;simp at e
 | succ n ih=>
  intro i j hi G6 g9 e;rcases Nat.eq_zero_or_pos i with rfl|mf
  ·rcases Nat.eq_zero_or_pos j with rfl|h0
   ·rfl
   rw[QTe,QUb h h0 g9]at e;simp at e
  rcases Nat.eq_zero_or_pos j with rfl|hj0
  ·rw[QTe,QUb h mf G6]at e;simp at e
  have pi:=Qib h mf G6;have pj:=Qib h hj0 g9;rw[QUb h mf G6,QUb h hj0 g9]at e;obtain⟨e1,e2⟩:=List.append_inj' e rfl;have e3:=ih _ _ (by omega) (by omega) (by omega) e1;have e4:Qya T i=Qya T j:=by
   simp at e2;exact ByteArray.ext e2
  exact hD i j mf G6 hj0 g9 (by rw[←pi.2,←pj.2,e3]) e4
def Qld(T:List Qba)(i:Nat):List UInt8:=if i=0 then [47]else Q4d (QDc T i)
theorem QVb(T:List Qba)(i:Nat):(Qab T i).data.toList=Qld T i:=by
 unfold Qab Qld;split
 ·rfl
 rw[QPi]
theorem QCj{ns:List (List UInt8)}(h:NoS ns)(hn:∀n∈ns,n≠[])(e:Q4d ns=[47]):False:=by
 cases ns with
 | nil=>cases e
 | cons n ns=>
  have:47::(n++Q4d ns)=[47]:=e;injection this with _ h2;have:=List.append_eq_nil_iff.1 h2;exact hn n (List.mem_cons_self ..) this.1
theorem Qsg{T:List Qba}(h:Q3a T=true):∀(n i:Nat),i≤n→i<T.length→∀m∈QDc T i,m≠[]:=by
 have hP:=QBa h;intro n
 induction n with
 | zero=>intro i hi _;obtain rfl:i=0:=by omega
         intro n hn;cases hn
 | succ n ih=>
  intro i hi G6;by_cases h0:i=0
  ·subst h0;intro n hn;cases hn
  have hp:=Qib hP (by omega) G6;rw[QUb hP (by omega) G6];intro m hm;rcases List.mem_append.1 hm with hm|hm
  ·exact ih _ (by omega) (by omega) m hm
  simp at hm;subst hm;have:=(Qtd T 0 h i G6).1;rw[Nat.zero_add]at this;unfold QHd at this;rw[if_neg h0,Bool.and_eq_true]at this;rw[QHa G6];have h2:=this.2;unfold QTa at h2;simp only[Bool.and_eq_true,decide_eq_true_eq]at h2;intro e;rw[e]at h2;simp at h2
theorem Qcn{T:List Qba}(h:Q3a T=true)(hD:Dis T){i j:Nat}(hi:i<T.length)(hj:j<T.length)(e:Qld T i=Qld T j):i=j:=by
 have hP:=QBa h;unfold Qld at e;by_cases i0:i=0
 ·by_cases j0:j=0
  ·rw[i0,j0]
  rw[if_pos i0,if_neg j0]at e;exact(QCj (QDe h j j (Nat.le_refl _) hj) (Qsg h j j (Nat.le_refl _) hj) e.symm).elim
 by_cases j0:j=0
 ·rw[if_neg i0,if_pos j0]at e;exact(QCj (QDe h i i (Nat.le_refl _) hi) (Qsg h i i (Nat.le_refl _) hi) e).elim
 rw[if_neg i0,if_neg j0]at e;obtain⟨rest,e1,e2⟩:=QKh _ _ [] (QDe h i i (Nat.le_refl _) hi) (QDe h j j (Nat.le_refl _) hj) (.inl rfl) (by rw[List.append_nil];exact e);have:rest=[]:=by
  cases rest with
  | nil=>rfl
  | cons r rest=>cases e2
 subst this;rw[List.append_nil]at e1;exact Q1p hP hD i i j (Nat.le_refl _) hi hj e1.symm
theorem QXm{T U:List Qba}{i j:Nat}:eqS (Qab T i) (Qab U j)=true↔Qld T i=Qld U j:=by
 rw[QCa,←QVb,←QVb];constructor
 ·intro e;rw[e]
 intro e;exact ByteArray.ext (Array.toList_inj.1 e)
end Go.Proofs.YtgaboghigefgbaaGreatDoor
open Go
namespace Go.Proofs.YtgaboghigefgbaaGreatDoor
open Go.Proofs.Tryz
open Go.Lib (hid)
theorem Qlc{a b:ByteArray}(h:a.data.toList=b.data.toList):a=b:=ByteArray.ext (Array.toList_inj.1 h)
end Go.Proofs.YtgaboghigefgbaaGreatDoor
namespace Go.Proofs.YtgaboghigefgbaaGreatDoor
open Go.Proofs.Tryz
open Go.Lib (hid)
open Go.RowKit
end Go.Proofs.YtgaboghigefgbaaGreatDoor
open Go
namespace Go.Proofs.YtgaboghigefgbaaGreatDoor
open Go.Proofs.Tryz
open Go.Lib (hid)
theorem Qvp{T:List Qba}(hc:Qia T=0){i:Nat}(hi:i<T.length):QSb T (Qab T i)=i:=by
 have hp:=QOa hc;refine QHh hi (QXm.2 rfl) (fun q hq=>?_);cases e:eqS (Qab T q) (Qab T i)with
 | false=>rfl
 | true=>have:=Qcn hp.2.1 (QSd hc) (by omega) hi (QXm.1 e);omega
theorem QQm{T:List Qba}(hc:Qia T=0){i:Nat}(hi:i<T.length):Qua T (Qab T i)=((i:Int),0):=by
 unfold Qua;rw[if_neg (by simp[hc]),Qvp hc hi,if_pos (by omega)]
theorem Qis{T:List Qba}(hc:Qia T=0){i:Nat}(hi:i<T.length):QYa T (Qab T i)=((i:Int),true):=by
 unfold QYa;rw[if_neg (by simp[hc])];exact Qpg (Qvp hc hi)
theorem Qut{T:List Qba}(hc:Qia T=0){i:Nat}(hi:i<T.length):QXk T (i:Int)=Qab T i:=by
 unfold QXk;rw[if_neg (by rintro(h|h|h) <;> first|exact h hc|omega),Int.toNat_natCast]
theorem QUi{T:List Qba}(n:Qba){i:Nat}(hi:i<T.length):QWa (T++[n]) i=QWa T i∧Qya (T++[n]) i=Qya T i∧QZb (T++[n]) i=QZb T i∧QGb (T++[n]) i=QGb T i:=by
 have e:QWa (T++[n]) i=QWa T i:=by unfold QWa;rw[List.getElem?_append_left hi]
 refine⟨e,?_,?_,?_⟩
 ·unfold Qya;rw[List.getElem?_append_left hi]
 ·unfold QZb;rw[List.getElem?_append_left hi]
 unfold QGb;rw[e]
theorem QZi{T:List Qba}{n:Qba}(h:Par T)(k:Par (T++[n])):∀(m i:Nat),i≤m→i<T.length→QDc (T++[n]) i=QDc T i:=by
 intro m
 induction m with
 | zero=>intro i hi _;obtain rfl:i=0:=by omega
         rfl
 | succ m ih=>
  intro i hi G6;by_cases h0:i=0
  ·subst h0;rfl
  have hp:=Qib h (by omega) G6;obtain⟨_,e2,_,e4⟩:=QUi n G6;rw[QUb h (by omega) G6,QUb k (by omega) (by simp;omega),e4,e2,ih _ (by omega) (by omega)]
theorem QVg{L:List Qba}(h:QUc L){i k:Nat}(hi:i<L.length)(hk:(Qgb L)[i]? = some k):QDc (Qta L) i=QDc L k:=by
 unfold QDc;rw[Q1h h i i k (Nat.le_refl _) hi hk,List.map_map];rfl
theorem QVo{T:List Qba}(hc:Qia T=0){k:Nat}(hk:k<T.length){name:ByteArray}(he:(QQc T (Qab T k) name).2=0) :
 QTa name.data.toList=true∧T.any (QRa (k:Int) name)=false∧Q8b T T.length (k:Int)<8∧T.length<120∧(QQc T (Qab T k) name).1=Qta (T++[⟨(k:Int),name,[]⟩]):=by
 unfold QQc at *
 rw[QQm hc hk]at *
 simp only[ne_eq,not_true_eq_false,if_false]at *
 split at he
 ·cases he
 split at he
 ·cases he
 split at he
 ·cases he
 split at he
 ·cases he
 rename_i h1 h2 h3 h4;rw[if_neg h1,if_neg h2,if_neg h3,if_neg h4];refine⟨by simpa using h1,by simpa using h2,by omega,by omega,rfl⟩
end Go.Proofs.YtgaboghigefgbaaGreatDoor
namespace Go.Proofs.YtgaboghigefgbaaGreatDoor
open Go.Proofs.Tryz
open Go.Lib (hid)
open Go.RowKit
end Go.Proofs.YtgaboghigefgbaaGreatDoor
open Go
namespace Go.Proofs.YtgaboghigefgbaaGreatDoor
open Go.Proofs.Tryz
open Go.Lib (hid)
theorem Qlt{T U:List Qba}(h:T.map sk=U.map sk)(i:Nat):Qya T i=Qya U i:=by
 have e:(T.map sk)[i]? = (U.map sk)[i]?:=by rw[h]
 rw[List.getElem?_map,List.getElem?_map]at e;unfold Qya;cases h1:T[i]? <;> cases h2:U[i]? <;> rw[h1,h2]at e <;> simp[sk]at e ⊢;exact e.2
theorem QPu{T U:List Qba}(h:T.map sk=U.map sk)(i:Nat):pc T i=pc U i:=by
 have key:∀f j,QZh T f j=QZh U f j:=by
  intro f
  induction f with
  | zero=>intro j;rfl
  | succ f ih=>
   intro j;have e:QGb T j=QGb U j:=by unfold QGb;rw[Qiq h]
   unfold QZh;rw[ih,e,Qlt h]
 exact key i i
theorem Qug{T U:List Qba}(h:T.map sk=U.map sk)(i:Nat):Qab T i=Qab U i:=by unfold Qab;rw[QPu h]
theorem Qmu{T:List Qba}{k:Nat}(hk:k<T.length)(ps:List Qqa):T.map sk=(T.set k ⟨T[k].parent,T[k].name,ps⟩).map sk:=by
 rw[List.map_set];apply List.ext_getElem?;intro i;by_cases e:k=i
 ·subst e;rw[List.getElem?_set_self (by simpa using hk),List.getElem?_map,List.getElem?_eq_getElem hk];rfl
 rw[List.getElem?_set_ne e]
theorem Qkm{T U:List Qba}(hc:Qia T=0)(hs:T.map sk=U.map sk)(hl:Qza U=true)(Gm:∀n∈U,n.props.all (fun p=>Q6a p.name)=true)(ha:∀n∈U,Qjd n.props=true):Qia U=0:=by
 obtain⟨h1,h2,h3,h4,h5⟩:=QOa hc;refine Qvj ⟨hl,Q9m T _ 0 hs Gm h2,?_,?_,?_⟩
 ·unfold Qxb;rw[←QHk hs];exact Qvl hs T _ 0 _ hs ha h3
 ·rw[←h4];exact(Q0q _ _ 0 [] hs).symm
 rw[←h5];exact(Qkp hs).symm
theorem QPm:∀l:List Qqa,Qjd l=true↔l.Pairwise fun a b=>ltS a.name b.name=true:=by
 intro l;constructor
 ·intro h;rw[List.pairwise_iff_getElem];intro i j hi hj kV;exact QOm l h i j hi hj kV
 intro h
 induction h with
 | nil=>rfl
 | @cons a l ha _ ih=>
  refine QOe.2 ⟨fun b hb=>ha b ?_,ih⟩;exact List.mem_of_head? hb
theorem QGl{ps:List Qqa}(h:Qjd ps=true)(x:ByteArray):Qjd (QDa ps x)=true:=(QPm _).2 (List.Pairwise.filter _ ((QPm _).1 h))
theorem Qji{ps:List Qqa}{x:ByteArray}{q:Qqa}(h:q∈QDa ps x):q∈ps:=(List.mem_filter.1 h).1
theorem Qfu{ps:List Qqa}(p:Qqa):ofT (QOc ps p) p.name=(p.value,true):=by
 have hl:=QJk ps p.name;have gj:(QOc ps p)[Qmb ps p.name]? = some p:=by
  unfold QOc;rw[List.getElem?_append_right (by simp;omega),List.length_take,Nat.min_eq_left hl];simp
 obtain⟨hk,he⟩:=List.getElem?_eq_some_iff.1 gj;have:=Q9p (x:=p.name) hk (by rw[he];exact(QCa _ _).2 rfl) (fun j hj g9=>by
  have yg:j<ps.length:=by omega
  have e:(QOc ps p)[j]? = some ps[j]:=by
   unfold QOc;rw[List.getElem?_append_left (by simp;omega),List.getElem?_take_of_lt (by omega),List.getElem?_eq_getElem yg]
  have e2:(QOc ps p)[j]=ps[j]:=by rw[List.getElem?_eq_getElem hj]at e;exact Option.some.inj e
  rw[e2];exact QZm ((QIk p.name ps).1 j yg g9))
 rw[this,he]
end Go.Proofs.YtgaboghigefgbaaGreatDoor
open Go
namespace Go.Proofs.YtgaboghigefgbaaGreatDoor
open Go.Proofs.Tryz
open Go.Lib (hid)
def InS(T:List Qba)(s:ByteArray):Prop:=∃i,i<T.length∧Qab T i=s
def PrS(T:List Qba)(s q v:ByteArray):Prop:=∃i,∃h:i<T.length,Qab T i=s∧ofT T[i].props q=(v,true)
theorem Q0h{T:List Qba}(hc:Qia T=0){i j:Nat}(hi:i<T.length)(hj:j<T.length)(e:Qab T i=Qab T j):i=j:=by
 refine Qcn (QOa hc).2.1 (QSd hc) hi hj ?_;rw[←QVb,←QVb,e]
theorem Qih{T U:List Qba}{i j:Nat}(h:Qld T i=Qld U j):Qab T i=Qab U j:=Qlc (by rw[QVb,QVb,h])
theorem QXl{T:List Qba}(hc:Qia T=0){s:ByteArray}:InS T s↔(QYa T s).2=true:=by
 constructor
 ·rintro⟨i,hi,rfl⟩;rw[Qis hc hi]
 intro h;rcases QSf T s with e|⟨i,hi,_,hp⟩
 ·unfold QYa at h;rw[if_neg (by simp[hc]),Qwk e]at h;cases h
 exact⟨i,hi,hp⟩
theorem QFe(a:Qqa)(r:List Qqa)(q:ByteArray):ofT (a::r) q=if a.name=q then(a.value,true)else ofT r q:=by
 unfold ofT;rw[List.find?_cons];cases e:eqS a.name q with
 | true=>rw[if_pos ((QCa _ _).1 e)]
 | false=>rw[if_neg (fun h=>by rw[(QCa _ _).2 h]at e;cases e)]
theorem Q8p(q:ByteArray):ofT [] q=(ByteArray.empty,false):=rfl
theorem QIs(p:Qqa)(q:ByteArray):∀l:List Qqa,ofT (QOc l p) q=if q=p.name then(p.value,true)else ofT l q
 | []=>by
  rw[Qtq,QFe,Q8p];by_cases e:q=p.name
  ·rw[if_pos e,if_pos e.symm]
  rw[if_neg e,if_neg (fun h=>e h.symm)]
 | a::r=>by
  by_cases e:q=p.name
  ·rw[if_pos e,e];exact Qfu p
  rw[if_neg e];cases h:ltS a.name p.name with
  | true=>
   rw[QOj h,QFe,QFe,QIs p q r,if_neg e]
  | false=>
   rw[QNj h,QFe,if_neg (fun h=>e h.symm)];split
   ·rename_i h2;rw[QFe,if_neg (fun h3:a.name=q=>e (by rw[←h3];first|exact h2|exact(QCa _ _).1 h2))]
   rfl
theorem Q2i(x q:ByteArray):∀l:List Qqa,ofT (QDa l x) q=if q=x then(ByteArray.empty,false)else ofT l q
 | []=>by unfold QDa;rw[List.filter_nil,Q8p];split <;> rfl
 | a::r=>by
  have ih:=Q2i x q r;unfold QDa at ih ⊢;rw[List.filter_cons];cases h:eqS a.name x with
  | true=>
   have h':=(QCa _ _).1 h;simp only[Bool.not_true,Bool.false_eq_true,if_false];rw[ih,QFe];by_cases e:q=x
   ·rw[if_pos e,if_pos e]
   rw[if_neg e,if_neg e,if_neg (fun h3:a.name=q=>e (h3.symm.trans h'))]
  | false=>
   have h':a.name≠x:=fun h3=>by rw[(QCa _ _).2 h3]at h;cases h
   simp only[Bool.not_false,if_true];rw[QFe,QFe,ih];by_cases e:q=x
   ·rw[if_neg (fun h3:a.name=q=>h' (h3.trans e)),if_pos e,if_pos e]
   rw[if_neg e,if_neg e]
theorem Q2k{T U:List Qba}(hT:Qia T=0){k:Nat}(hk:k<T.length)(hs:T.map sk=U.map sk)(pe:k<U.length)(ho:∀i (hi:i<T.length) (hj:i<U.length),i≠k→U[i].props=T[i].props) :
 (∀s,InS U s↔InS T s)∧∀s q v,PrS U s q v↔if s=Qab T k then ofT U[k].props q=(v,true)else PrS T s q v:=by
 have hl:=QHk hs;refine⟨fun s=>⟨?_,?_⟩,fun s q v=>?_⟩
 ·rintro⟨i,hi,e⟩;exact⟨i,by omega,(Qug hs i).trans e⟩
 ·rintro⟨i,hi,e⟩;exact⟨i,by omega,(Qug hs i).symm.trans e⟩
 by_cases e:s=Qab T k
 ·rw[if_pos e];subst e;constructor
  ·rintro⟨i,hi,e,hv⟩;rw[←Qug hs i]at e;have:i=k:=Q0h hT (by omega) hk e;subst this;exact hv
  intro h;exact⟨k,pe,(Qug hs k).symm,h⟩
 rw[if_neg e];constructor
 ·rintro⟨i,hi,ei,hv⟩;rw[←Qug hs i]at ei;have Hl:i≠k:=fun h=>e (by rw[←ei,h]);rw[ho i (by omega) hi Hl]at hv;exact⟨i,by omega,ei,hv⟩
 rintro⟨i,hi,ei,hv⟩;have Hl:i≠k:=fun h=>e (by rw[←ei,h]);exact⟨i,by omega,(Qug hs i).symm.trans ei,by rw[ho i hi (by omega) Hl];exact hv⟩
theorem QDt{T:List Qba}{s name value:ByteArray}(he:(Qid T s name value).2=0):Qia (Qid T s name value).1=0∧InS T s∧(∀t,InS (Qid T s name value).1 t↔InS T t)∧
 ∀t q v,PrS (Qid T s name value).1 t q v↔if t=s∧q=name then v=value else PrS T t q v:=by
 have hv:=Qel he;rcases Qkb T s with⟨h1,h2⟩|⟨hc,k,hk,hb,hp⟩
 ·unfold Qid at he;rw[if_pos h1]at he;exact absurd he h1
 have kr:=QIq (name:=name) (value:=value) hb;have hE:Qid T s name value=(QJb T k ⟨name,value⟩,0):=by
  rw[kr]at he ⊢;split at he
  ·cases he
  rename_i h1;rw[if_neg h1];split at he
  ·cases he
  rename_i h2;rw[if_neg h2]
 rw[hE]at hv ⊢;simp only at hv ⊢;have Mh:QJb T k ⟨name,value⟩=T.set k ⟨T[k].parent,T[k].name,QOc T[k].props ⟨name,value⟩⟩:=by unfold QJb;rw[List.getElem?_eq_getElem hk];rfl
 have pe:k<(QJb T k ⟨name,value⟩).length:=by rw[hv.2];exact hk
 obtain⟨a1,a2⟩:=Q2k hc hk (QUj T k ⟨name,value⟩) pe (fun i hi hj Hl=>by
  simp only[Mh];rw[List.getElem_set_ne (fun h=>Hl h.symm)])
 have Gm:(QJb T k ⟨name,value⟩)[k].props=QOc T[k].props ⟨name,value⟩:=by simp only[Mh];rw[List.getElem_set_self]
 refine⟨hv.1,⟨k,hk,hp⟩,a1,fun t q v=>?_⟩;rw[a2,Gm,QIs,hp];by_cases e:t=s
 ·subst e;simp only[true_and,if_true];by_cases e2:q=name
  ·rw[if_pos e2,if_pos e2];constructor
   ·intro h;exact((Prod.mk.injEq _ _ _ _).mp h).1.symm
   intro h;rw[h]
  rw[if_neg e2,if_neg e2];constructor
  ·intro h;exact⟨k,hk,hp,h⟩
  rintro⟨i,hi,ei,h⟩;have:i=k:=Q0h hc hi hk (ei.trans hp.symm);subst this;exact h
 rw[if_neg e,if_neg (fun h=>e h.1)]
theorem QFn{T:List Qba}{s x:ByteArray}(he:(Q9a T s x).2=0):Qia (Q9a T s x).1=0∧InS T s∧(∀t,InS (Q9a T s x).1 t↔InS T t)∧
 ∀t q v,PrS (Q9a T s x).1 t q v↔if t=s∧q=x then False else PrS T t q v:=by
 rcases Qkb T s with⟨h1,h2⟩|⟨hc,k,hk,hb,hp⟩
 ·unfold Q9a at he;rw[if_pos h1]at he;exact absurd he h1
 have kr:=Qxe (x:=x) hk hb;have hE:Q9a T s x=(T.set k ⟨T[k].parent,T[k].name,QDa T[k].props x⟩,0):=by
  rw[kr]at he ⊢;split at he
  ·cases he
  rename_i h1;rw[if_neg h1]
 rw[hE];simp only;have hs:=Qmu hk (QDa T[k].props x);have KQ:=QOa hc;have KF:∀n∈T.set k ⟨T[k].parent,T[k].name,QDa T[k].props x⟩,n∈T∨n.props=QDa T[k].props x:=fun n hn=>by
  rcases List.mem_or_eq_of_mem_set hn with h|h
  ·exact .inl h
  rw[h];exact .inr rfl
 have Ka:∀n∈T,Qbf n=true:=by
  have h1:=KQ.1;unfold Qza at h1;rw[Bool.and_eq_true,List.all_eq_true]at h1;exact h1.2
 have pQ:∀n∈T,n.props.all (fun p=>Q6a p.name)=true:=fun n hn=>by
  obtain⟨i,hi,rfl⟩:=List.getElem_of_mem hn;exact(Qtd T 0 KQ.2.1 i hi).2
 have Gg:Qia (T.set k ⟨T[k].parent,T[k].name,QDa T[k].props x⟩)=0:=by
  refine Qkm hc hs ?_ ?_ ?_
  ·have h1:=KQ.1;unfold Qza at h1 ⊢;rw[Bool.and_eq_true,decide_eq_true_eq]at h1 ⊢;refine⟨by rw[List.length_set];exact h1.1,?_⟩;rw[List.all_eq_true];intro n hn;rcases KF n hn with h|h
   ·exact Ka n h
   have hf:=Ka _ (List.getElem_mem hk);unfold Qbf at hf ⊢;rw[Bool.and_eq_true,decide_eq_true_eq,List.all_eq_true]at hf ⊢;rw[h];refine⟨Nat.le_trans (List.length_filter_le _ _) hf.1,fun p hp=>hf.2 p (Qji hp)⟩
  ·intro n hn;rcases KF n hn with h|h
   ·exact pQ n h
   rw[h,List.all_eq_true];intro p hp;exact List.all_eq_true.1 (pQ _ (List.getElem_mem hk)) p (Qji hp)
  intro n hn;rcases KF n hn with h|h
  ·exact Qve hc n h
  rw[h];exact QGl (Qve hc _ (List.getElem_mem hk)) x
 have pe:k<(T.set k ⟨T[k].parent,T[k].name,QDa T[k].props x⟩).length:=by rw[List.length_set];exact hk
 obtain⟨a1,a2⟩:=Q2k hc hk hs pe (fun i hi hj Hl=>by rw[List.getElem_set_ne (fun h=>Hl h.symm)]);refine⟨Gg,⟨k,hk,hp⟩,a1,fun t q v=>?_⟩;rw[a2,List.getElem_set_self,Q2i,hp];by_cases e:t=s
 ·subst e;simp only[true_and,if_true];by_cases e2:q=x
  ·rw[if_pos e2,if_pos e2];simp
  rw[if_neg e2,if_neg e2];constructor
  ·intro h;exact⟨k,hk,hp,h⟩
  rintro⟨i,hi,ei,h⟩;have:i=k:=Q0h hc hi hk (ei.trans hp.symm);subst this;exact h
 rw[if_neg e,if_neg (fun h=>e h.1)]
def Qzh(s name:ByteArray):ByteArray:=if Q8h s=true then⟨(47::name.data.toList).toArray⟩else⟨(s.data.toList++47::name.data.toList).toArray⟩
theorem QDn{T:List Qba}(hc:Qia T=0){k:Nat}(hk:k<T.length)(name:ByteArray):(Qzh (Qab T k) name).data.toList=Q4d (QDc T k++[name.data.toList]):=by
 have hn:=(QOa hc).2.1;unfold Qzh;by_cases k0:k=0
 ·subst k0;have:Q8h (Qab T 0)=true:=(QCa _ _).2 rfl;rw[if_pos this];simp[QTe,Q4d]
 have hL:(Qab T k).data.toList=Q4d (QDc T k):=by rw[QVb];unfold Qld;rw[if_neg k0]
 have:Q8h (Qab T k)≠true:=fun h=>by
  have e:=(QCa _ _).1 h;rw[e]at hL;exact QCj (QDe hn _ _ (Nat.le_refl _) hk) (Qsg hn _ _ (Nat.le_refl _) hk) hL.symm
 rw[if_neg this,hL];simp[Q4d]
theorem QZs{T:List Qba}{s name:ByteArray}(he:(QQc T s name).2=0):Qia (QQc T s name).1=0∧InS T s∧(∀t,InS (QQc T s name).1 t↔InS T t∨t=Qzh s name)∧
 ∀t q v,PrS (QQc T s name).1 t q v↔PrS T t q v:=by
 have Gg:=(Q9j he).1;rcases Qkb T s with⟨h1,h2⟩|⟨hc,k,hk,hb,hp⟩
 ·unfold QQc at he;rw[if_pos h1]at he;exact absurd he h1
 subst hp;obtain⟨hn,ha,hd,hl,h1⟩:=QVo hc hk he;rw[h1]at Gg ⊢;have KQ:=QOa hc;have hP:=QBa KQ.2.1;have h0:0<T.length:=by omega
 have vC:QUc T:=⟨h0,hP,QTb KQ.2.1 h0⟩;have eU:=QYd vC (n:=⟨(k:Int),name,[]⟩) rfl hk;have lm:=eU.2.1;have qL:(T++[(⟨(k:Int),name,[]⟩:Qba)]).length=T.length+1:=by simp
 have pM:QWa (T++[(⟨(k:Int),name,[]⟩:Qba)]) T.length=(k:Int):=by unfold QWa;simp
 have vb:Qya (T++[(⟨(k:Int),name,[]⟩:Qba)]) T.length=name:=by unfold Qya;simp
 have vr:QZb (T++[(⟨(k:Int),name,[]⟩:Qba)]) T.length=[]:=by unfold QZb;simp
 have mV:∀j,j<T.length→Qld (T++[(⟨(k:Int),name,[]⟩:Qba)]) j=Qld T j∧QZb (T++[(⟨(k:Int),name,[]⟩:Qba)]) j=QZb T j:=fun j hj=>⟨by unfold Qld;rw[QZi hP lm j j (Nat.le_refl _) hj],(QUi _ hj).2.2.1⟩;have K0:Qld (T++[(⟨(k:Int),name,[]⟩:Qba)]) T.length=(Qzh (Qab T k) name).data.toList:=by
  unfold Qld;rw[if_neg (by omega),QUb lm h0 (by rw[qL];omega),vb,QGj pM,QZi hP lm k k (Nat.le_refl _) hk,QDn hc hk]
 generalize(T++[(⟨(k:Int),name,[]⟩:Qba)])=L at *
 have qd:=QWb lm eU.1;have eJ:∀i,i<L.length→∃j,j<L.length∧Qld (Qta L) i=Qld L j∧QZb (Qta L) i=QZb L j:=fun i hi=>by
  obtain⟨j,b1,b2,b3,b4,b5,b6,b7⟩:=QEb eU hi;refine⟨j,b2,?_,b5⟩;unfold Qld;rw[QVg eU hi b1];by_cases i0:i=0
  ·rw[if_pos i0,if_pos (b6 i0)]
  rw[if_neg i0,if_neg (by have:=(b7 (by omega)).1;omega)]
 have mc:∀j,j<L.length→∃i,i<L.length∧Qld (Qta L) i=Qld L j∧QZb (Qta L) i=QZb L j:=fun j hj=>by
  obtain⟨Hs,gv⟩:=Qec lm eU.1;obtain⟨hi,e⟩:=QEj ((Hs j).2 hj);have KG:=QYc lm eU.1;obtain⟨j',b1,b2,b3,b4,b5,b6,b7⟩:=QEb eU (show(Qgb L).idxOf j<L.length by omega);rw[List.getElem?_eq_getElem hi,e]at b1;cases b1;refine⟨(Qgb L).idxOf j,by omega,?_,b5⟩;unfold Qld;rw[QVg eU (by omega) (by rw[List.getElem?_eq_getElem hi,e])];by_cases i0:(Qgb L).idxOf j=0
  ·rw[if_pos i0,if_pos (b6 i0)]
  rw[if_neg i0,if_neg (by have:=(b7 (by omega)).1;omega)]
 refine⟨Gg,⟨k,hk,rfl⟩,fun t=>⟨?_,?_⟩,fun t q v=>⟨?_,?_⟩⟩
 ·rintro⟨i,hi,e⟩;obtain⟨j,hj,e1,_⟩:=eJ i (by omega);by_cases hjT:j<T.length
  ·exact .inl ⟨j,hjT,by rw[←e];exact Qih (by rw[e1,(mV j hjT).1])⟩
  have:j=T.length:=by omega
  subst this;right;rw[←e];exact Qlc (by rw[QVb,e1,K0])
 ·rintro(⟨j,hj,e⟩|e)
  ·obtain⟨i,hi,e1,_⟩:=mc j (by omega);exact⟨i,by omega,by rw[←e];exact Qih (by rw[e1,(mV j hj).1])⟩
  obtain⟨i,hi,e1,_⟩:=mc T.length (by omega);exact⟨i,by omega,by rw[e];exact Qlc (by rw[QVb,e1,K0])⟩
 ·rintro⟨i,hi,e,hv⟩;obtain⟨j,hj,e1,e2⟩:=eJ i (by omega);rw[←Qfb hi,e2]at hv;by_cases hjT:j<T.length
  ·rw[(mV j hjT).2,Qfb hjT]at hv;exact⟨j,hjT,by rw[←e];exact Qih (by rw[e1,(mV j hjT).1]),hv⟩
  have:j=T.length:=by omega
  subst this;rw[vr,Q8p]at hv;cases hv
 rintro⟨j,hj,e,hv⟩;obtain⟨i,hi,e1,e2⟩:=mc j (by omega);refine⟨i,by omega,by rw[←e];exact Qih (by rw[e1,(mV j hj).1]),?_⟩;rw[←Qfb (by omega:i<(Qta L).length),e2,(mV j hj).2,Qfb hj];exact hv
end Go.Proofs.YtgaboghigefgbaaGreatDoor
