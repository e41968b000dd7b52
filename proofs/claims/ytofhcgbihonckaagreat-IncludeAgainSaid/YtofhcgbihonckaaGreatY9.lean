/- The reader of package expression in memory; its sign and expect. | The reader of package expression: its fields, sign, expect. | The reader of package expression: primary. | The reader of package expression: primary at a number, 0. | The reader of package expression: primary at a number, 1. | The reader of package expression: primary at a number, 2. | The reader of package expression: primary. | bringupref02: the parser in memory; sign, take, truth. | bringupref02: apply (printed by grfe.py). -/
import Derived.Test.YtofhcgbihonckaaGreatY2
import Derived.BigQuiet
set_option linter.all false
set_option maxHeartbeats 8000000
namespace Go.Proofs.YtofhcgbihonckaaGreat
open Go.Lib (hid)
open Go.RowKit
section
variable{L:List (Int × ByteArray × Int)}{d i k:Nat}{v:Int}
theorem Q7f(hs:Qwa L i=⟨#[40]⟩)(h:Rd L .whole (d+1) (i+1) none):Rd L .prim d i none:=by
 obtain⟨n,h⟩:=h;exact⟨n+1,by rw[evT,if_pos hs,h];rfl⟩
theorem QSg{q:Int × Nat × Bool × Bool × Bool}(hs:Qwa L i=⟨#[40]⟩)(h:Rd L .whole (d+1) (i+1) (some q))(h2:Qwa L q.2.1≠⟨#[41]⟩):Rd L .prim d i none:=by
 obtain⟨n,h⟩:=h;exact⟨n+1,by rw[evT,if_pos hs,h];show some (if _ then _ else _)=_;rw[if_neg h2]⟩
theorem QZl{q:Int × Nat × Bool × Bool × Bool}(hs:Qwa L i=⟨#[40]⟩)(h:Rd L .whole (d+1) (i+1) (some q))(h2:Qwa L q.2.1=⟨#[41]⟩):Rd L .prim d i (some (q.1,q.2.1+1,q.2.2)):=by
 obtain⟨n,h⟩:=h;exact⟨n+1,by rw[evT,if_pos hs,h];show some (if _ then _ else _)=_;rw[if_pos h2]⟩
theorem Qsi{t:Int × ByteArray × Int}(hs:Qwa L i≠⟨#[40]⟩)(h:L[i]? = some t)(h2:t.1=2):Rd L .prim d i (some (t.2.2 % 4294967296,i+1,decide (8<d),decide (t.2.2<0) || decide (4294967295<t.2.2),false)):=
 ⟨1,by rw[evT,if_neg hs,h];show some (if _ then _ else _)=_;rw[if_pos h2]⟩
theorem Qxf(hs:Qwa L i≠⟨#[40]⟩)(h:∀t,L[i]? = some t→t.1≠2):Rd L .prim d i none:=
 ⟨1,by
  rw[evT,if_neg hs]
  cases e:L[i]? with
  | none=>rfl
  | some t=>show some (if _ then _ else _)=_;rw[if_neg (h t e)]⟩
theorem Q0o{r:Option (Int × Nat × Bool × Bool × Bool)}(hs:unB (Qwa L i)=true)(h:Rd L .opnd d (i+1) r):Rd L .opnd d i (r.map fun q=>(unT (Qwa L i) q.1,q.2)):=by
 obtain⟨n,h⟩:=h;exact⟨n+1,by rw[evT,if_pos hs,h];rfl⟩
theorem Qyh{r:Option (Int × Nat × Bool × Bool × Bool)}(hs:unB (Qwa L i)=false)(h:Rd L .prim d i r):Rd L .opnd d i r:=by
 obtain⟨n,h⟩:=h;exact⟨n+1,by rw[evT,if_neg (by rw[hs];simp),h]⟩
theorem Q6f{r:Option (Int × Nat × Bool × Bool × Bool)}(h:Rd L .opnd d i r):Rd L (.lvl 0) d i r:=by
 obtain⟨n,h⟩:=h;exact⟨n+1,by rw[evT,h]⟩
theorem Qje(h:Rd L (.lvl k) d i none):Rd L (.lvl (k+1)) d i none:=by
 obtain⟨n,h⟩:=h;exact⟨n+1,by rw[evT,h];rfl⟩
theorem QYj{q:Int × Nat × Bool × Bool × Bool}{r:Option (Int × Nat × Bool × Bool × Bool)}(h:Rd L (.lvl k) d i (some q))(h2:Rd L (.loop k q.1) d q.2.1 r):Rd L (.lvl (k+1)) d i (r.map fun q2=>(q2.1,q2.2.1,orF q.2.2 q2.2.2)):=by
 obtain⟨n,h⟩:=h;obtain⟨m,h2⟩:=h2
 exact⟨max n m+1,by rw[evT,QTe L (Nat.le_max_left n m) h];show Option.map _ _=_;rw[QTe L (Nat.le_max_right n m) h2];rfl⟩
theorem Qnd(h:Q7b k (Qwa L i)=none):Rd L (.loop k v) d i (some (v,i,noF)):=⟨1,by rw[evT,h]⟩
theorem Qgf{f:Nat}(hr:Q7b k (Qwa L i)=some f)(h:Rd L (.lvl k) d (i+1) none):Rd L (.loop k v) d i none:=by
 obtain⟨n,h⟩:=h;exact⟨n+1,by rw[evT,hr];show Option.bind _ _=_;rw[h];rfl⟩
theorem Qxh{f:Nat}{q:Int × Nat × Bool × Bool × Bool}{r:Option (Int × Nat × Bool × Bool × Bool)}(hr:Q7b k (Qwa L i)=some f)(h:Rd L (.lvl k) d (i+1) (some q))
 (h2:Rd L (.loop k (QPb f v (if Qdb f q.1=true then 1 else q.1))) d q.2.1 r):Rd L (.loop k v) d i (r.map fun q2=>(q2.1,q2.2.1,orF (orF q.2.2 (false,false,Qdb f q.1)) q2.2.2)):=by
 obtain⟨n,h⟩:=h;obtain⟨m,h2⟩:=h2
 exact⟨max n m+1,by rw[evT,hr];show Option.bind _ _=_;rw[QTe L (Nat.le_max_left n m) h];show Option.map _ _=_;rw[QTe L (Nat.le_max_right n m) h2];rfl⟩
theorem QGe(h:Rd L (.lvl 10) d i none):Rd L .whole d i none:=by
 obtain⟨n,h⟩:=h;exact⟨n+1,by rw[evT,h];rfl⟩
theorem Qyf{q:Int × Nat × Bool × Bool × Bool}(h:Rd L (.lvl 10) d i (some q))(hs:Qwa L q.2.1≠⟨#[63]⟩):Rd L .whole d i (some q):=by
 obtain⟨n,h⟩:=h;exact⟨n+1,by rw[evT,h];show(if _ then _ else _)=_;rw[if_neg hs]⟩
theorem QRg{q:Int × Nat × Bool × Bool × Bool}(h:Rd L (.lvl 10) d i (some q))(hs:Qwa L q.2.1=⟨#[63]⟩)(h2:Rd L .whole d (q.2.1+1) none):Rd L .whole d i none:=by
 obtain⟨n,h⟩:=h;obtain⟨m,h2⟩:=h2
 exact⟨max n m+1,by rw[evT,QTe L (Nat.le_max_left n m) h];show(if _ then _ else _)=_;rw[if_pos hs,QTe L (Nat.le_max_right n m) h2];rfl⟩
theorem Qri{q y:Int × Nat × Bool × Bool × Bool}(h:Rd L (.lvl 10) d i (some q))(hs:Qwa L q.2.1=⟨#[63]⟩)(h2:Rd L .whole d (q.2.1+1) (some y))(hc:Qwa L y.2.1≠⟨#[58]⟩):Rd L .whole d i none:=by
 obtain⟨n,h⟩:=h;obtain⟨m,h2⟩:=h2
 exact⟨max n m+1,by rw[evT,QTe L (Nat.le_max_left n m) h];show(if _ then _ else _)=_;rw[if_pos hs,QTe L (Nat.le_max_right n m) h2];show(if _ then _ else _)=_;rw[if_neg hc]⟩
theorem QXl{q y:Int × Nat × Bool × Bool × Bool}{r:Option (Int × Nat × Bool × Bool × Bool)}(h:Rd L (.lvl 10) d i (some q))(hs:Qwa L q.2.1=⟨#[63]⟩)(h2:Rd L .whole d (q.2.1+1) (some y))(hc:Qwa L y.2.1=⟨#[58]⟩)
 (h3:Rd L .whole d (y.2.1+1) r):Rd L .whole d i (r.map fun z=>(if q.1=0 then z.1 else y.1,z.2.1,orF (orF q.2.2 y.2.2) z.2.2)):=by
 obtain⟨n,h⟩:=h;obtain⟨m,h2⟩:=h2;obtain⟨o,h3⟩:=h3
 have a1:=QTe L (Nat.le_trans (Nat.le_max_left n m) (Nat.le_max_left (max n m) o)) h
 have a2:=QTe L (Nat.le_trans (Nat.le_max_right n m) (Nat.le_max_left (max n m) o)) h2
 have a3:=QTe L (Nat.le_max_right (max n m) o) h3
 exact⟨max (max n m) o+1,by rw[evT,a1];show(if _ then _ else _)=_;rw[if_pos hs,a2];show(if _ then _ else _)=_;rw[if_pos hc,a3];rfl⟩
end
def QEf(R:Nat→Prop)(w:World)(v:Value)(L:List (Int × ByteArray × Int)):Prop:=
 ∃(a:Option Addr) (cap:Nat),v = .slice a L.length cap∧(∀t∈L,t.2.1.size≤maxLen)∧(0<L.length→∃g o,a=some ⟨g,o,none⟩∧R g∧∀(j:Nat) (h:j<L.length),
  w.cell? ⟨g,o+j*6,none⟩=some (.int .i64 L[j].1)∧w.cell? ⟨g,o+j*6+1,none⟩=some (.string L[j].2.1)∧w.cell? ⟨g,o+j*6+2,none⟩=some (.int .i64 L[j].2.2))
theorem QEf.keeps{R S:Nat→Prop}{w w':World}{v:Value}{L:List (Int × ByteArray × Int)}(h:QEf R w v L)(k:Qaa S w w')(hs:∀g,R g→¬S g):QEf R w' v L:=by
 obtain⟨a,cap,e,h1,h2⟩:=h
 refine⟨a,cap,e,h1,fun h0=>?_⟩
 obtain⟨g,o,ea,hR,hc⟩:=h2 h0
 refine⟨g,o,ea,hR,fun j hj=>?_⟩
 obtain⟨c0,c1,c2⟩:=hc j hj
 have Hj:=World.block_lt_of_cell? w _ c0
 exact⟨(k.cell (p:=⟨g,o+j*6,none⟩) Hj (hs g hR)).trans c0,(k.cell (p:=⟨g,o+j*6+1,none⟩) Hj (hs g hR)).trans c1,(k.cell (p:=⟨g,o+j*6+2,none⟩) Hj (hs g hR)).trans c2⟩
theorem QPe.keeps{S:Nat→Prop}{w w':World}{g:Nat}{bs:List Nat}(h:QPe w g bs)(k:Qaa S w w')(hg:¬S g)(hb:∀b∈bs,¬S b):QPe w' g bs:=by
 obtain⟨h1,h2,h3⟩:=h
 exact⟨h1.keeps k hg,h2,fun i hi=>(h3 i hi).block (k.block _ (h3 i hi).lt (hb _ (List.getElem_mem hi)))⟩
def QLa(w:World)(r:Nat)(L:List (Int × ByteArray × Int))(i d:Nat)(syn dp gr dv:Bool):Prop:=
 ∃lv g bs,Qca w r #[lv,.slice (some ⟨g,0,none⟩) 10 10,.int .i64 i,.int .i64 d,.bool syn,.bool dp,.bool gr,.bool dv] 190∧QEf (fun x=>x≠r) w lv L∧QPe w g bs∧g≠r∧(∀b∈bs,b≠r)∧i≤L.length∧L.length≤1000000000∧d≤i
theorem QLa.keeps{w w':World}{r:Nat}{L:List (Int × ByteArray × Int)}{i d:Nat}{syn dp gr dv:Bool}(h:QLa w r L i d syn dp gr dv)(k:Qaa (fun _=>False) w w'):QLa w' r L i d syn dp gr dv:=by
 obtain⟨lv,g,bs,h1,h2,h3,h4⟩:=h
 exact⟨lv,g,bs,h1.keeps k (fun e=>e),h2.keeps k (fun _ _ e=>e),h3.keeps k (fun e=>e) (fun _ _ e=>e),h4⟩
section
variable{w:World}{r:Nat}{L:List (Int × ByteArray × Int)}{i d:Nat}{syn dp gr dv:Bool}
theorem QLa.put(h:QLa w r L i d syn dp gr dv)(o:Nat)(x:Value){i' d':Nat}{syn' dp' gr' dv':Bool}(hi:i'≤L.length)(hd:d'≤i')
 (he:∀lv rv:Value,(#[lv,rv,.int .i64 i,.int .i64 d,.bool syn,.bool dp,.bool gr,.bool dv]:Array Value).setIfInBounds o x=#[lv,rv,.int .i64 i',.int .i64 d',.bool syn',.bool dp',.bool gr',.bool dv']) :
 QLa (w.setCell ⟨r,o,none⟩ x) r L i' d' syn' dp' gr' dv'∧Qaa (fun b=>b=r) w (w.setCell ⟨r,o,none⟩ x):=by
 obtain⟨lv,g,bs,h1,h2,h3,h4,h5,_,h7,_⟩:=h
 have k:=(Qaa.refl (fun b=>b=r) w).setCell (p:=⟨r,o,none⟩) (.inr rfl) x
 exact⟨⟨lv,g,bs,by rw[←he];exact h1.set o x,h2.keeps k (fun _ hg e=>hg e),h3.keeps k h4 h5,h4,h5,hi,h7,hd⟩,k⟩
theorem QLa.next(h:QLa w r L i d syn dp gr dv)(hi:i+1≤L.length):QLa (w.setCell ⟨r,2,none⟩ (.int .i64 ((i+1:Nat):Int))) r L (i+1) d syn dp gr dv∧Qaa (fun b=>b=r) w (w.setCell ⟨r,2,none⟩ (.int .i64 ((i+1:Nat):Int))):=
 h.put 2 _ hi (by obtain⟨_,_,_,_,_,_,_,_,_,_,hd⟩:=h;omega) (fun _ _=>rfl)
end
theorem Qwj{a b:ByteArray}(h:a≠b):(a.toList == b.toList)=false:=by
 rw[beq_eq_false_iff_ne,ByteArray.toList_eq,ByteArray.toList_eq]
 intro e;exact h (by apply ByteArray.ext;exact Array.toList_inj.1 e)
def Qeb(r:Nat)(L:List (Int × ByteArray × Int))(i d:Nat)(syn dp gr dv:Bool)(w:World)(e:Ending)(w':World):Prop:=
 e = .returned (.string (if syn=true then⟨#[]⟩else Qwa L i))∧QLa w' r L i d syn dp gr dv∧Qaa (fun _=>False) w w'
theorem Qda(w:World)(n:Nat):Qaa (fun _=>False) w (w.drewN n):=(Qaa.refl _ w).drewN n
set_option maxRecDepth 100000 in
theorem Qjb(r:Nat)(L:List (Int × ByteArray × Int))(i d:Nat)(syn dp gr dv:Bool)(w:World)(h:QLa w r L i d syn dp gr dv) :
 Calls Tryz.prog 160 #[.pointer (some ⟨r,0,none⟩)] w (Qeb r L i d syn dp gr dv w):=by
 have HR:=hid h
 obtain⟨lv,g,bs,hH,⟨a,cap,rfl,Ge,ms⟩,_,_,_,Jq,JS,_⟩:=h
 have gh:=hid ms
 clear ms Ge
 have c0:=hH.cell 0
 have c2:=hH.cell 2
 have c4:=hH.cell 4
 have cl:=hH.lt
 cases syn with
 | true=>
  go_enter Tryz.func160,Tryz.ntmps160
  go_wp2_with fail
  go_quiet (fail)
  go_wp2_with fail
  go_ret
  exact⟨rfl,HR.out.keeps (Qda _ _),Qda _ _⟩
 | false=>
  by_cases Hj:i<L.length
  ·have mW:(i:Int)<(L.length:Int):=by omega
   have kY:¬((L.length:Int)≤(i:Int)):=by omega
   obtain⟨gt,ot,rfl,_,hc⟩:=gh.out (by omega)
   obtain⟨d0,d1,_⟩:=hc i Hj
   have hs:Qwa L i=if L[i].1=4 then L[i].2.1 else⟨#[]⟩:=by unfold Qwa;rw[List.getElem?_eq_getElem Hj]
   have HS:=hid hs
   clear hc hs
   generalize L[i].1=kd at *
   generalize L[i].2.1=tx at *
   by_cases hk:kd=4
   ·subst hk
    have Hh:=hid (show Qwa L i=tx from by rw[HS.out];rfl)
    go_enter Tryz.func160,Tryz.ntmps160
    go_wp2_with fail
    go_quiet (fail)
    go_wp2_with fail
    go_quiet (fail)
    go_wp2_with fail
    go_ret
    exact⟨by rw[Hh.out];rfl,(HR.out.keeps (Qda _ _)).keeps (Qda _ _),(Qda _ _).drewN _⟩
   ·have kA:(kd != 4)=true:=by simpa using hk
    have Hh:=hid (show Qwa L i=⟨#[]⟩from by rw[HS.out,if_neg hk])
    clear hk
    go_enter Tryz.func160,Tryz.ntmps160
    go_wp2_with fail
    go_quiet (fail)
    go_wp2_with fail
    go_ret
    exact⟨by rw[Hh.out];rfl,HR.out.keeps (Qda _ _),Qda _ _⟩
  ·have mW:¬(i:Int)<(L.length:Int):=by omega
   have kY:(L.length:Int)≤(i:Int):=by omega
   have Hh:=hid (show Qwa L i=⟨#[]⟩from by unfold Qwa;rw[List.getElem?_eq_none (by omega)])
   go_enter Tryz.func160,Tryz.ntmps160
   go_wp2_with fail
   go_quiet (fail)
   go_wp2_with fail
   go_ret
   exact⟨by rw[Hh.out];rfl,HR.out.keeps (Qda _ _),Qda _ _⟩
def Q2c(r:Nat)(L:List (Int × ByteArray × Int))(i d:Nat)(syn dp gr dv:Bool)(s:ByteArray)(w:World)(e:Ending)(w':World):Prop:=
 e = .returned (.tuple #[])∧Qaa (fun b=>b=r) w w'∧
  ((syn=false∧Qwa L i=s→QLa w' r L (i+1) d false dp gr dv)∧(¬(syn=false∧Qwa L i=s)→QLa w' r L i d true dp gr dv))
theorem QQc{L:List (Int × ByteArray × Int)}{i:Nat}(h:Qwa L i≠⟨#[]⟩):i<L.length:=by
 rcases Nat.lt_or_ge i L.length with k|k
 ·exact k
 ·exact absurd (by unfold Qwa;rw[List.getElem?_eq_none k]) h
set_option maxRecDepth 100000 in
theorem QNd(r:Nat)(L:List (Int × ByteArray × Int))(i d:Nat)(syn dp gr dv:Bool)(s:ByteArray)(w:World)(h:QLa w r L i d syn dp gr dv)(hs:s≠⟨#[]⟩) :
 Calls Tryz.prog 162 #[.pointer (some ⟨r,0,none⟩),.string s] w (Q2c r L i d syn dp gr dv s w):=by
 have Hf:=Qjb r L i d syn dp gr dv w h
 unfold Qeb at Hf
 have mQ:syn=false→Qwa L i=s→i+1≤L.length:=fun _ e=>QQc (by rw[e];exact hs)
 have nG:i≤1000000000:=by obtain⟨_,_,_,_,_,_,_,_,h1,h2,_⟩:=h;omega
 have fU:=hid mQ
 by_cases hy:syn=false∧Qwa L i=s
 ·obtain⟨rfl,rfl⟩:=hy
  have hn:=fU.out rfl rfl
  clear mQ
  go_enter Tryz.func162,Tryz.ntmps162
  go_wp2_with fail
  refine Hf.mono ?_
  rintro e w1 ⟨rfl,Hz,Ht⟩
  have Gq:=hid Hz
  obtain⟨lv,g,bs,hH,_⟩:=Hz
  have c2:=hH.cell 2
  have f2:=hH.free 2
  have cl:=hH.lt
  go_wp2_with fail
  go_end0
  obtain⟨h2,h3⟩:=Gq.out.next hn
  rw[show((i+1:Nat):Int)=(i:Int)+1 from by omega]at h2 h3
  exact⟨rfl,(Ht.mono (fun _ _ e=>e.elim)).trans h3 (fun _ _ e=>e),fun _=>h2,fun e=>absurd ⟨rfl,rfl⟩ e⟩
 ·have Hq:(if syn=true then(⟨#[]⟩:ByteArray)else Qwa L i)≠s:=by
   cases syn with
   | true=>simpa using hs.symm
   | false=>intro e;exact hy ⟨rfl,e⟩
  generalize (if syn=true then(⟨#[]⟩:ByteArray)else Qwa L i)=t at Hf Hq
  have jT:=Qwj Hq
  clear Hq
  have HY:=hid hy
  clear mQ hy
  go_enter Tryz.func162,Tryz.ntmps162
  go_wp2_with fail
  refine Hf.mono ?_
  rintro e w1 ⟨rfl,Hz,Ht⟩
  have Gq:=hid Hz
  obtain⟨lv,g,bs,hH,_⟩:=Hz
  have c4:=hH.cell 4
  have f4:=hH.free 4
  have cl:=hH.lt
  go_wp2_with fail
  refine bodyPost_ret (results_none rfl _ _ _) rfl ?_
  have pK:d≤i∧i≤L.length:=by obtain⟨_,_,_,_,_,_,_,_,h1,_,h2⟩:=Gq.out;exact⟨h2,h1⟩
  obtain⟨h2,h3⟩:=Gq.out.put 4 (.bool true) (i':=i) (d':=d) (syn':=true) (dp':=dp) (gr':=gr) (dv':=dv) pK.2 pK.1 (fun _ _=>rfl)
  exact⟨rfl,(Ht.mono (fun _ _ e=>e.elim)).trans h3 (fun _ _ e=>e),fun e=>absurd e HY.out,fun _=>h2⟩
theorem Q3b{a:ByteArray}{l:List UInt8}(h:a.toList=l):a=⟨l.toArray⟩:=by
 rw[ByteArray.toList_eq]at h
 apply ByteArray.ext;show a.data=l.toArray;rw[←h]
section
variable{w:World}{r:Nat}{L:List (Int × ByteArray × Int)}{i d:Nat}{syn dp gr dv:Bool}
theorem QLa.cells(h:QLa w r L i d syn dp gr dv):w.cell? ⟨r,2,none⟩=some (.int .i64 i)∧w.cell? ⟨r,3,none⟩=some (.int .i64 d)∧w.cell? ⟨r,4,none⟩=some (.bool syn)∧w.cell? ⟨r,5,none⟩=some (.bool dp)∧w.cell? ⟨r,6,none⟩=some (.bool gr)∧w.cell? ⟨r,7,none⟩=some (.bool dv)∧
 w.frozen? ⟨r,2,none⟩=false∧w.frozen? ⟨r,3,none⟩=false∧w.frozen? ⟨r,4,none⟩=false∧w.frozen? ⟨r,5,none⟩=false∧w.frozen? ⟨r,6,none⟩=false∧w.frozen? ⟨r,7,none⟩=false∧r<w.heap.size∧i≤L.length∧L.length≤1000000000∧d≤i:=by
 obtain⟨lv,g,bs,h1,h2,h3,h4,h5,h6,h7,h8⟩:=h
 exact⟨h1.cell 2,h1.cell 3,h1.cell 4,h1.cell 5,h1.cell 6,h1.cell 7,h1.free 2,h1.free 3,h1.free 4,h1.free 5,h1.free 6,h1.free 7,h1.lt,h6,h7,h8⟩
theorem QLa.on(h:QLa w r L i d syn dp gr dv)(hi:i+1≤L.length):QLa (w.setCell ⟨r,2,none⟩ (.int .i64 ((i:Int)+1))) r L (i+1) d syn dp gr dv∧Qaa (fun b=>b=r) w (w.setCell ⟨r,2,none⟩ (.int .i64 ((i:Int)+1))):=by
 have:=h.next hi
 rwa [show((i+1:Nat):Int)=(i:Int)+1 from by omega]at this
theorem QLa.deeper(h:QLa w r L i d syn dp gr dv)(hd:d+1≤i):QLa (w.setCell ⟨r,3,none⟩ (.int .i64 ((d:Int)+1))) r L i (d+1) syn dp gr dv∧Qaa (fun b=>b=r) w (w.setCell ⟨r,3,none⟩ (.int .i64 ((d:Int)+1))):=by
 have:=h.put 3 (.int .i64 ((d+1:Nat):Int)) (i':=i) (d':=d+1) (syn':=syn) (dp':=dp) (gr':=gr) (dv':=dv) h.cells.2.2.2.2.2.2.2.2.2.2.2.2.2.1 hd (fun _ _=>rfl)
 rwa [show((d+1:Nat):Int)=(d:Int)+1 from by omega]at this
theorem QLa.back(h:QLa w r L i (d+1) syn dp gr dv):QLa (w.setCell ⟨r,3,none⟩ (.int .i64 (d:Int))) r L i d syn dp gr dv∧Qaa (fun b=>b=r) w (w.setCell ⟨r,3,none⟩ (.int .i64 (d:Int))):=
 h.put 3 (.int .i64 (d:Int)) (i':=i) (d':=d) h.cells.2.2.2.2.2.2.2.2.2.2.2.2.2.1 (by have:=h.cells.2.2.2.2.2.2.2.2.2.2.2.2.2.2.2;omega) (fun _ _=>rfl)
end
def Qud(r:Nat)(L:List (Int × ByteArray × Int))(d:Nat)(w:World)(e:Ending)(w':World):Prop:=
 ∃(v:Int) (i:Nat) (dp gr dv:Bool),e = .returned (.int .u32 v)∧0≤v∧v≤4294967295∧QLa w' r L i d true dp gr dv∧Qaa (fun b=>b=r) w w'
def QNb(r:Nat)(L:List (Int × ByteArray × Int))(W:Wh)(d i:Nat)(dp gr dv:Bool)(w:World)(e:Ending)(w':World):Prop:=
 (∃(v:Int) (j:Nat) (p g q:Bool),Rd L W d i (some (v,j,p,g,q))∧e = .returned (.int .u32 v)∧0≤v∧v≤4294967295∧i<j∧j≤L.length∧QLa w' r L j d false (dp || p) (gr || g) (dv || q)∧Qaa (fun b=>b=r) w w')∨
 (Rd L W d i none∧Qud r L d w e w')
theorem QXa{r:Nat}{w w':World}(k:Qaa (fun _=>False) w w'):Qaa (fun b=>b=r) w w':=k.mono (fun _ _ e=>e.elim)
set_option maxRecDepth 100000 in
theorem QTi(r:Nat)(L:List (Int × ByteArray × Int))(d i:Nat)(gr dv:Bool)(w:World)(h:QLa w r L i d false true gr dv)(hs:¬Qwa L i=⟨#[40]⟩)(Hj:i<L.length)(hk:L[i].1=2) :
 Calls Tryz.prog 155 #[.pointer (some ⟨r,0,none⟩)] w (QNb r L .prim d i true gr dv w):=by
 have Hf:=Qjb r L i d false true gr dv w h
 unfold Qeb at Hf
 simp only[Bool.false_eq_true,if_false]at Hf
 have jT:((Qwa L i).toList == [40])=false:=by
  rw[beq_eq_false_iff_ne];intro e;exact hs (Q3b e)
 have HS:=hid hs
 generalize Qwa L i=t at Hf jT
 clear hs
 go_enter Tryz.func155,Tryz.ntmps155
 go_wp2_with fail
 refine Hf.mono ?_
 rintro e w1 ⟨rfl,Hz,Ht⟩
 obtain⟨c2,c3,c4,c5,c6,_,f2,f3,f4,f5,f6,_,rl,He,Hn,gv⟩:=Hz.cells
 have Gq:=hid Hz
 obtain⟨lv,g,bs,hH,⟨a,cap,rfl,Ge,ms⟩,_⟩:=Hz
 have c0:=hH.cell 0
 have gh:=hid ms
 clear hH ms Ge
 have mW:(i:Int)<(L.length:Int):=by omega
 have kY:¬((L.length:Int)≤(i:Int)):=by omega
 obtain⟨gt,ot,rfl,_,hc⟩:=gh.out (by omega)
 obtain⟨d0,d1,d2⟩:=hc i Hj
 have GY:L[i]? = some L[i]:=List.getElem?_eq_getElem Hj
 have Jy:=hid GY
 clear hc GY d1
 have gz:=Qsi (d:=d) HS.out Jy.out hk
 rw[hk]at d0
 have kB:=hid gz
 clear gz hk
 generalize L[i].2.2=x at *
 have Hh:∀(wx:World) (gr':Bool),gr'=(gr || (decide (x<0) || decide (4294967295<x)))→Qaa (fun _=>False) w1 wx→
  QNb r L .prim d i true gr dv w (.returned (.int .u32 (x % 4294967296))) (((wx.setCell ⟨r,2,none⟩ (.int .i64 ((i:Int)+1))).setCell ⟨r,5,none⟩ (.bool true)).setCell ⟨r,6,none⟩ (.bool gr')):=by
  intro wx gr' e2 jS
  obtain⟨q1,m1⟩:=(Gq.out.keeps jS).on (by omega)
  obtain⟨q2,m2⟩:=q1.put 5 (.bool true) (i':=i+1) (d':=d) (syn':=false) (dp':=true) (gr':=gr) (dv':=dv) (by omega) (by omega) (fun _ _=>rfl)
  obtain⟨q3,m3⟩:=q2.put 6 (.bool gr') (i':=i+1) (d':=d) (syn':=false) (dp':=true) (gr':=gr') (dv':=dv) (by omega) (by omega) (fun _ _=>rfl)
  refine .inl ⟨_,_,_,_,_,kB.out,rfl,by omega,by omega,by omega,by omega,?_,(((((QXa Ht).trans (QXa jS) (fun _ _ e=>e)).trans m1 (fun _ _ e=>e)).trans m2 (fun _ _ e=>e)).trans m3 (fun _ _ e=>e))⟩
  rw[←e2,Bool.or_false,show(true || decide (8<d))=true from by rfl];exact q3
 have Gr:=hid Hh
 clear Hh
 cases gr with
 | true=>
  go_wp2_with fail
  go_quiet (fail)
  go_wp2_with fail
  go_quiet (fail)
  go_wp2_with fail
  go_ret
  exact Gr.out _ true (by simp) (Qda _ _)
 | false=>
  by_cases hx:x<0
  ·go_wp2_with fail
   go_quiet (fail)
   go_wp2_with fail
   go_quiet (fail)
   go_wp2_with fail
   go_ret
   exact Gr.out _ true (by simp[hx]) (Qda _ _)
  ·by_cases hy:(4294967295:Int)<x
   ·go_wp2_with fail
    go_quiet (fail)
    go_wp2_with fail
    go_quiet (fail)
    go_wp2_with fail
    go_ret
    exact Gr.out _ true (by simp[hy]) (Qda _ _)
   ·go_wp2_with fail
    go_quiet (fail)
    go_wp2_with fail
    go_quiet (fail)
    go_wp2_with fail
    go_ret
    have hq:=fun n=>Gr.out (w1.drewN n) (decide (x<0) || decide (4294967295<x)) (by simp) (Qda _ _)
    rw[show x % 4294967296=x from by omega]at hq
    exact hq _
set_option maxRecDepth 100000 in
theorem QUi(r:Nat)(L:List (Int × ByteArray × Int))(d i:Nat)(gr dv:Bool)(w:World)(h8:8<d)(h:QLa w r L i d false false gr dv)(hs:¬Qwa L i=⟨#[40]⟩)(Hj:i<L.length)(hk:L[i].1=2) :
 Calls Tryz.prog 155 #[.pointer (some ⟨r,0,none⟩)] w (QNb r L .prim d i false gr dv w):=by
 have Hf:=Qjb r L i d false false gr dv w h
 unfold Qeb at Hf
 simp only[Bool.false_eq_true,if_false]at Hf
 have jT:((Qwa L i).toList == [40])=false:=by
  rw[beq_eq_false_iff_ne];intro e;exact hs (Q3b e)
 have HS:=hid hs
 generalize Qwa L i=t at Hf jT
 clear hs
 have tH:(8:Int)<(d:Int):=by omega
 go_enter Tryz.func155,Tryz.ntmps155
 go_wp2_with fail
 refine Hf.mono ?_
 rintro e w1 ⟨rfl,Hz,Ht⟩
 obtain⟨c2,c3,c4,c5,c6,_,f2,f3,f4,f5,f6,_,rl,He,Hn,gv⟩:=Hz.cells
 have Gq:=hid Hz
 obtain⟨lv,g,bs,hH,⟨a,cap,rfl,Ge,ms⟩,_⟩:=Hz
 have c0:=hH.cell 0
 have gh:=hid ms
 clear hH ms Ge
 have mW:(i:Int)<(L.length:Int):=by omega
 have kY:¬((L.length:Int)≤(i:Int)):=by omega
 obtain⟨gt,ot,rfl,_,hc⟩:=gh.out (by omega)
 obtain⟨d0,d1,d2⟩:=hc i Hj
 have GY:L[i]? = some L[i]:=List.getElem?_eq_getElem Hj
 have Jy:=hid GY
 clear hc GY d1
 have gz:=Qsi (d:=d) HS.out Jy.out hk
 rw[hk]at d0
 have kB:=hid gz
 clear gz hk
 generalize L[i].2.2=x at *
 have Hh:∀(wx:World) (gr':Bool),gr'=(gr || (decide (x<0) || decide (4294967295<x)))→Qaa (fun _=>False) w1 wx→
  QNb r L .prim d i false gr dv w (.returned (.int .u32 (x % 4294967296))) (((wx.setCell ⟨r,2,none⟩ (.int .i64 ((i:Int)+1))).setCell ⟨r,5,none⟩ (.bool true)).setCell ⟨r,6,none⟩ (.bool gr')):=by
  intro wx gr' e2 jS
  obtain⟨q1,m1⟩:=(Gq.out.keeps jS).on (by omega)
  obtain⟨q2,m2⟩:=q1.put 5 (.bool true) (i':=i+1) (d':=d) (syn':=false) (dp':=true) (gr':=gr) (dv':=dv) (by omega) (by omega) (fun _ _=>rfl)
  obtain⟨q3,m3⟩:=q2.put 6 (.bool gr') (i':=i+1) (d':=d) (syn':=false) (dp':=true) (gr':=gr') (dv':=dv) (by omega) (by omega) (fun _ _=>rfl)
  refine .inl ⟨_,_,_,_,_,kB.out,rfl,by omega,by omega,by omega,by omega,?_,(((((QXa Ht).trans (QXa jS) (fun _ _ e=>e)).trans m1 (fun _ _ e=>e)).trans m2 (fun _ _ e=>e)).trans m3 (fun _ _ e=>e))⟩
  rw[←e2,Bool.or_false,show(false || decide (8<d))=true from by simp[h8]];exact q3
 have Gr:=hid Hh
 clear Hh
 cases gr with
 | true=>
  go_wp2_with fail
  go_quiet (fail)
  go_wp2_with fail
  go_quiet (fail)
  go_wp2_with fail
  go_ret
  exact Gr.out _ true (by simp) (Qda _ _)
 | false=>
  by_cases hx:x<0
  ·go_wp2_with fail
   go_quiet (fail)
   go_wp2_with fail
   go_quiet (fail)
   go_wp2_with fail
   go_ret
   exact Gr.out _ true (by simp[hx]) (Qda _ _)
  ·by_cases hy:(4294967295:Int)<x
   ·go_wp2_with fail
    go_quiet (fail)
    go_wp2_with fail
    go_quiet (fail)
    go_wp2_with fail
    go_ret
    exact Gr.out _ true (by simp[hy]) (Qda _ _)
   ·go_wp2_with fail
    go_quiet (fail)
    go_wp2_with fail
    go_quiet (fail)
    go_wp2_with fail
    go_ret
    have hq:=fun n=>Gr.out (w1.drewN n) (decide (x<0) || decide (4294967295<x)) (by simp) (Qda _ _)
    rw[show x % 4294967296=x from by omega]at hq
    exact hq _
set_option maxRecDepth 100000 in
theorem QVi(r:Nat)(L:List (Int × ByteArray × Int))(d i:Nat)(gr dv:Bool)(w:World)(h8:¬8<d)(h:QLa w r L i d false false gr dv)(hs:¬Qwa L i=⟨#[40]⟩)(Hj:i<L.length)(hk:L[i].1=2) :
 Calls Tryz.prog 155 #[.pointer (some ⟨r,0,none⟩)] w (QNb r L .prim d i false gr dv w):=by
 have Hf:=Qjb r L i d false false gr dv w h
 unfold Qeb at Hf
 simp only[Bool.false_eq_true,if_false]at Hf
 have jT:((Qwa L i).toList == [40])=false:=by
  rw[beq_eq_false_iff_ne];intro e;exact hs (Q3b e)
 have HS:=hid hs
 generalize Qwa L i=t at Hf jT
 clear hs
 have tH:¬(8:Int)<(d:Int):=by omega
 go_enter Tryz.func155,Tryz.ntmps155
 go_wp2_with fail
 refine Hf.mono ?_
 rintro e w1 ⟨rfl,Hz,Ht⟩
 obtain⟨c2,c3,c4,c5,c6,_,f2,f3,f4,f5,f6,_,rl,He,Hn,gv⟩:=Hz.cells
 have Gq:=hid Hz
 obtain⟨lv,g,bs,hH,⟨a,cap,rfl,Ge,ms⟩,_⟩:=Hz
 have c0:=hH.cell 0
 have gh:=hid ms
 clear hH ms Ge
 have mW:(i:Int)<(L.length:Int):=by omega
 have kY:¬((L.length:Int)≤(i:Int)):=by omega
 obtain⟨gt,ot,rfl,_,hc⟩:=gh.out (by omega)
 obtain⟨d0,d1,d2⟩:=hc i Hj
 have GY:L[i]? = some L[i]:=List.getElem?_eq_getElem Hj
 have Jy:=hid GY
 clear hc GY d1
 have gz:=Qsi (d:=d) HS.out Jy.out hk
 rw[hk]at d0
 have kB:=hid gz
 clear gz hk
 generalize L[i].2.2=x at *
 have Hh:∀(wx:World) (gr':Bool),gr'=(gr || (decide (x<0) || decide (4294967295<x)))→Qaa (fun _=>False) w1 wx→
  QNb r L .prim d i false gr dv w (.returned (.int .u32 (x % 4294967296))) (((wx.setCell ⟨r,2,none⟩ (.int .i64 ((i:Int)+1))).setCell ⟨r,5,none⟩ (.bool (decide ((8:Int)<(d:Int))))).setCell ⟨r,6,none⟩ (.bool gr')):=by
  intro wx gr' e2 jS
  obtain⟨q1,m1⟩:=(Gq.out.keeps jS).on (by omega)
  obtain⟨q2,m2⟩:=q1.put 5 (.bool (decide ((8:Int)<(d:Int)))) (i':=i+1) (d':=d) (syn':=false) (dp':=(decide ((8:Int)<(d:Int)))) (gr':=gr) (dv':=dv) (by omega) (by omega) (fun _ _=>rfl)
  obtain⟨q3,m3⟩:=q2.put 6 (.bool gr') (i':=i+1) (d':=d) (syn':=false) (dp':=(decide ((8:Int)<(d:Int)))) (gr':=gr') (dv':=dv) (by omega) (by omega) (fun _ _=>rfl)
  refine .inl ⟨_,_,_,_,_,kB.out,rfl,by omega,by omega,by omega,by omega,?_,(((((QXa Ht).trans (QXa jS) (fun _ _ e=>e)).trans m1 (fun _ _ e=>e)).trans m2 (fun _ _ e=>e)).trans m3 (fun _ _ e=>e))⟩
  rw[←e2,Bool.or_false,show(false || decide (8<d))=(decide ((8:Int)<(d:Int)))from by(rw[Bool.false_or];exact decide_eq_decide.2 (by omega))];exact q3
 have Gr:=hid Hh
 clear Hh
 cases gr with
 | true=>
  go_wp2_with fail
  go_quiet (fail)
  go_wp2_with fail
  go_quiet (fail)
  go_wp2_with fail
  go_ret
  exact Gr.out _ true (by simp) (Qda _ _)
 | false=>
  by_cases hx:x<0
  ·go_wp2_with fail
   go_quiet (fail)
   go_wp2_with fail
   go_quiet (fail)
   go_wp2_with fail
   go_ret
   exact Gr.out _ true (by simp[hx]) (Qda _ _)
  ·by_cases hy:(4294967295:Int)<x
   ·go_wp2_with fail
    go_quiet (fail)
    go_wp2_with fail
    go_quiet (fail)
    go_wp2_with fail
    go_ret
    exact Gr.out _ true (by simp[hy]) (Qda _ _)
   ·go_wp2_with fail
    go_quiet (fail)
    go_wp2_with fail
    go_quiet (fail)
    go_wp2_with fail
    go_ret
    have hq:=fun n=>Gr.out (w1.drewN n) (decide (x<0) || decide (4294967295<x)) (by simp) (Qda _ _)
    rw[show x % 4294967296=x from by omega]at hq
    exact hq _
set_option maxRecDepth 100000 in
theorem Qae(r:Nat)(L:List (Int × ByteArray × Int))(d i:Nat)(dp gr dv:Bool)(w:World)(h:QLa w r L i d false dp gr dv)
 (hW:i+1≤L.length→∀(dp gr dv:Bool) (w:World),QLa w r L (i+1) (d+1) false dp gr dv→Calls Tryz.prog 161 #[.pointer (some ⟨r,0,none⟩)] w (QNb r L .whole (d+1) (i+1) dp gr dv w)) :
 Calls Tryz.prog 155 #[.pointer (some ⟨r,0,none⟩)] w (QNb r L .prim d i dp gr dv w):=by
 have Hf:=Qjb r L i d false dp gr dv w h
 unfold Qeb at Hf
 simp only[Bool.false_eq_true,if_false]at Hf
 have HW:=hid hW;clear hW
 by_cases hs:Qwa L i=⟨#[40]⟩
 ·have GV:i+1≤L.length:=QQc (by rw[hs];decide)
  have HS:=hid hs
  rw[hs]at Hf
  clear hs
  go_enter Tryz.func155,Tryz.ntmps155
  go_wp2_with fail
  refine Hf.mono ?_
  rintro e w1 ⟨rfl,Hz,Ht⟩
  obtain⟨c2,c3,_,_,_,_,f2,f3,_,_,_,_,rl,He,Hn,gv⟩:=Hz.cells
  obtain⟨gG,Ho⟩:=Hz.on GV
  obtain⟨mY,Hc⟩:=gG.deeper (by omega)
  go_wp2_with fail
  refine(HW.out GV _ _ _ _ (by exact mY)).mono ?_
  have Hr:=((QXa Ht).trans Ho (fun _ _ e=>e)).trans Hc (fun _ _ e=>e)
  clear Hz gG mY Ht Ho Hc c2 c3 f2 f3
  rintro e w2 (⟨v,j,p,g,q,gz,rfl,k8,GZ,sj,pV,Mh,Hs⟩|⟨gz,v,j,p,g,q,rfl,k8,GZ,Mh,Hs⟩)
  ·have Hw:=Hr.trans Hs (fun _ _ e=>e)
   obtain⟨_,c3,_,_,_,_,_,f3,_,_,_,_,rl2,_,_,mt⟩:=Mh.cells
   obtain⟨ji,Gd⟩:=Mh.back
   have gn:=Hw.trans Gd (fun _ _ e=>e)
   have jf:=QNd r L j d false _ _ _ ⟨#[41]⟩ _ ji (by decide)
   unfold Q2c at jf
   go_wp2_with fail
   refine jf.mono ?_
   rintro e w3 ⟨rfl,GP,ct,J9⟩
   have aO:=hid ct
   have eX:=hid J9
   clear ct J9
   go_wp2_with fail
   go_ret
   by_cases hc:Qwa L j=⟨#[41]⟩
   ·exact .inl ⟨v,j+1,p,g,q,QZl HS.out gz hc,rfl,k8,GZ,by omega,QQc (by rw[hc];decide),aO.out ⟨by trivial,hc⟩,gn.trans GP (fun _ _ e=>e)⟩
   ·exact .inr ⟨QSg HS.out gz hc,v,j,_,_,_,rfl,k8,GZ,eX.out (fun e=>hc e.2),gn.trans GP (fun _ _ e=>e)⟩
  ·have Hw:=Hr.trans Hs (fun _ _ e=>e)
   obtain⟨_,c3,_,_,_,_,_,f3,_,_,_,_,rl2,_,_,mt⟩:=Mh.cells
   obtain⟨ji,Gd⟩:=Mh.back
   have gn:=Hw.trans Gd (fun _ _ e=>e)
   have jf:=QNd r L j d true _ _ _ ⟨#[41]⟩ _ ji (by decide)
   unfold Q2c at jf
   go_wp2_with fail
   refine jf.mono ?_
   rintro e w3 ⟨rfl,GP,ct,J9⟩
   have aO:=hid ct
   have eX:=hid J9
   clear ct J9
   go_wp2_with fail
   go_ret
   exact .inr ⟨Q7f HS.out gz,v,j,_,_,_,rfl,k8,GZ,eX.out (by simp),gn.trans GP (fun _ _ e=>e)⟩
 ·by_cases gV:∃Hj:i<L.length,L[i].1=2
  ·obtain⟨Hj,hk⟩:=gV
   clear HW Hf
   cases dp with
   | true=>exact QTi r L d i gr dv w h hs Hj hk
   | false=>
    by_cases h8:8<d
    ·exact QUi r L d i gr dv w h8 h hs Hj hk
    ·exact QVi r L d i gr dv w h8 h hs Hj hk
  ·have oK:=hid gV
   clear gV
   have jT:((Qwa L i).toList == [40])=false:=by
    rw[beq_eq_false_iff_ne];intro e;exact hs (Q3b e)
   have HS:=hid hs
   generalize Qwa L i=t at Hf jT
   clear hs
   have cu:∀wx:World,QLa wx r L i d false dp gr dv→Qaa (fun b=>b=r) w wx→Rd L .prim d i none→
    QNb r L .prim d i dp gr dv w (.returned (.int .u32 0)) (wx.setCell ⟨r,4,none⟩ (.bool true)):=by
    intro wx hx kx hn
    obtain⟨q1,m1⟩:=hx.put 4 (.bool true) (i':=i) (d':=d) (syn':=true) (dp':=dp) (gr':=gr) (dv':=dv) hx.cells.2.2.2.2.2.2.2.2.2.2.2.2.2.1 hx.cells.2.2.2.2.2.2.2.2.2.2.2.2.2.2.2 (fun _ _=>rfl)
    exact .inr ⟨hn,0,i,dp,gr,dv,rfl,by omega,by omega,q1,kx.trans m1 (fun _ _ e=>e)⟩
   have cb:=hid cu
   clear cu
   go_enter Tryz.func155,Tryz.ntmps155
   go_wp2_with fail
   refine Hf.mono ?_
   rintro e w1 ⟨rfl,Hz,Ht⟩
   obtain⟨c2,c3,c4,c5,c6,_,f2,f3,f4,f5,f6,_,rl,He,Hn,gv⟩:=Hz.cells
   have Gq:=hid Hz
   obtain⟨lv,g,bs,hH,⟨a,cap,rfl,Ge,ms⟩,_⟩:=Hz
   have c0:=hH.cell 0
   have gh:=hid ms
   clear hH ms Ge
   by_cases Hj:i<L.length
   ·have mW:(i:Int)<(L.length:Int):=by omega
    have kY:¬((L.length:Int)≤(i:Int)):=by omega
    obtain⟨gt,ot,rfl,_,hc⟩:=gh.out (by omega)
    obtain⟨d0,d1,d2⟩:=hc i Hj
    have GY:L[i]? = some L[i]:=List.getElem?_eq_getElem Hj
    have Jy:=hid GY
    clear hc GY d1
    have hk:¬L[i].1=2:=fun e=>oK.out ⟨Hj,e⟩
    have kA:(L[i].1 != 2)=true:=by simpa using hk
    have gz:=Qxf (d:=d) HS.out (by rw[Jy.out];intro t' e;injection e with e;rw[←e];exact hk)
    have kB:=hid gz
    clear gz hk
    generalize L[i].1=kd at *
    go_wp2_with fail
    go_quiet (fail)
    go_wp2_with fail
    go_ret
    exact cb.out _ (Gq.out.keeps (Qda _ _)) ((QXa Ht).trans (QXa (Qda _ _)) (fun _ _ e=>e)) kB.out
   ·have mW:¬(i:Int)<(L.length:Int):=by omega
    have kY:(L.length:Int)≤(i:Int):=by omega
    have gz:=Qxf (d:=d) HS.out (by rw[List.getElem?_eq_none (by omega)];rintro t' ⟨⟩)
    have kB:=hid gz
    clear gz
    go_wp2_with fail
    go_quiet (fail)
    go_wp2_with fail
    go_ret
    exact cb.out _ (Gq.out.keeps (Qda _ _)) ((QXa Ht).trans (QXa (Qda _ _)) (fun _ _ e=>e)) kB.out
def QKa(w:World)(p:Nat)(L:List (Int × ByteArray × Int))(i:Nat)(syn dp gr dv:Bool):Prop:=
 ∃lv,Qca w p #[lv,.int .i64 i,.bool syn,.bool dp,.bool gr,.bool dv] 179∧QEf (fun x=>x≠p) w lv L∧i≤L.length∧L.length≤1000000000
section
variable{w w':World}{p:Nat}{L:List (Int × ByteArray × Int)}{i:Nat}{syn dp gr dv:Bool}
theorem QKa.keeps(h:QKa w p L i syn dp gr dv)(k:Qaa (fun _=>False) w w'):QKa w' p L i syn dp gr dv:=by
 obtain⟨lv,h1,h2,h4⟩:=h
 exact⟨lv,h1.keeps k (fun e=>e),h2.keeps k (fun _ _ e=>e),h4⟩
theorem QKa.put(h:QKa w p L i syn dp gr dv)(o:Nat)(x:Value){i':Nat}{syn' dp' gr' dv':Bool}(hi:i'≤L.length)
 (he:∀lv:Value,(#[lv,.int .i64 i,.bool syn,.bool dp,.bool gr,.bool dv]:Array Value).setIfInBounds o x=#[lv,.int .i64 i',.bool syn',.bool dp',.bool gr',.bool dv']) :
 QKa (w.setCell ⟨p,o,none⟩ x) p L i' syn' dp' gr' dv'∧Qaa (fun b=>b=p) w (w.setCell ⟨p,o,none⟩ x):=by
 obtain⟨lv,h1,h2,_,h7⟩:=h
 have k:=(Qaa.refl (fun b=>b=p) w).setCell (p:=⟨p,o,none⟩) (.inr rfl) x
 exact⟨⟨lv,by rw[←he];exact h1.set o x,h2.keeps k (fun _ hg e=>hg e),hi,h7⟩,k⟩
theorem QKa.next(h:QKa w p L i syn dp gr dv)(hi:i+1≤L.length):QKa (w.setCell ⟨p,1,none⟩ (.int .i64 ((i:Int)+1))) p L (i+1) syn dp gr dv∧Qaa (fun b=>b=p) w (w.setCell ⟨p,1,none⟩ (.int .i64 ((i:Int)+1))):=
 h.put 1 _ hi (fun _=>rfl)
theorem QKa.cells(h:QKa w p L i syn dp gr dv):w.cell? ⟨p,1,none⟩=some (.int .i64 i)∧w.cell? ⟨p,2,none⟩=some (.bool syn)∧w.cell? ⟨p,3,none⟩=some (.bool dp)∧w.cell? ⟨p,4,none⟩=some (.bool gr)∧w.cell? ⟨p,5,none⟩=some (.bool dv)∧
 w.frozen? ⟨p,1,none⟩=false∧w.frozen? ⟨p,2,none⟩=false∧w.frozen? ⟨p,3,none⟩=false∧w.frozen? ⟨p,4,none⟩=false∧w.frozen? ⟨p,5,none⟩=false∧p<w.heap.size∧i≤L.length∧L.length≤1000000000:=by
 obtain⟨lv,h1,_,h3,h4⟩:=h
 exact⟨h1.cell 1,h1.cell 2,h1.cell 3,h1.cell 4,h1.cell 5,h1.free 1,h1.free 2,h1.free 3,h1.free 4,h1.free 5,h1.lt,h3,h4⟩
end
def Qhc(p:Nat)(L:List (Int × ByteArray × Int))(i:Nat)(syn dp gr dv:Bool)(w:World)(e:Ending)(w':World):Prop:=
 e = .returned (.string (Qwa L i))∧QKa w' p L i syn dp gr dv∧Qaa (fun _=>False) w w'
set_option maxRecDepth 100000 in
theorem Qie(p:Nat)(L:List (Int × ByteArray × Int))(i:Nat)(syn dp gr dv:Bool)(w:World)(h:QKa w p L i syn dp gr dv) :
 Calls Tryz.prog 151 #[.pointer (some ⟨p,0,none⟩)] w (Qhc p L i syn dp gr dv w):=by
 have HR:=hid h
 obtain⟨lv,hH,⟨a,cap,rfl,Ge,ms⟩,Jq,JS⟩:=h
 have gh:=hid ms
 clear ms Ge
 have c0:=hH.cell 0
 have c2:=hH.cell 1
 have cl:=hH.lt
 by_cases Hj:i<L.length
 ·have mW:(i:Int)<(L.length:Int):=by omega
  have kY:¬((L.length:Int)≤(i:Int)):=by omega
  obtain⟨gt,ot,rfl,_,hc⟩:=gh.out (by omega)
  obtain⟨d0,d1,_⟩:=hc i Hj
  have hs:Qwa L i=if L[i].1=4 then L[i].2.1 else⟨#[]⟩:=by unfold Qwa;rw[List.getElem?_eq_getElem Hj]
  have HS:=hid hs
  clear hc hs
  generalize L[i].1=kd at *
  generalize L[i].2.1=tx at *
  by_cases hk:kd=4
  ·subst hk
   have Hh:=hid (show Qwa L i=tx from by rw[HS.out];rfl)
   go_enter Tryz.func151,Tryz.ntmps151
   go_wp2_with fail
   go_quiet (fail)
   go_wp2_with fail
   go_quiet (fail)
   go_wp2_with fail
   go_ret
   exact⟨by rw[Hh.out];rfl,(HR.out.keeps (Qda _ _)).keeps (Qda _ _),(Qda _ _).drewN _⟩
  ·have kA:(kd == 4)=false:=by simpa using hk
   have Hh:=hid (show Qwa L i=⟨#[]⟩from by rw[HS.out,if_neg hk])
   clear hk
   go_enter Tryz.func151,Tryz.ntmps151
   go_wp2_with fail
   go_quiet (fail)
   go_wp2_with fail
   go_ret
   exact⟨by rw[Hh.out];rfl,HR.out.keeps (Qda _ _),Qda _ _⟩
 ·have mW:¬(i:Int)<(L.length:Int):=by omega
  have kY:(L.length:Int)≤(i:Int):=by omega
  have Hh:=hid (show Qwa L i=⟨#[]⟩from by unfold Qwa;rw[List.getElem?_eq_none (by omega)])
  go_enter Tryz.func151,Tryz.ntmps151
  go_wp2_with fail
  go_quiet (fail)
  go_wp2_with fail
  go_ret
  exact⟨by rw[Hh.out];rfl,HR.out.keeps (Qda _ _),Qda _ _⟩
def QYk(p:Nat)(L:List (Int × ByteArray × Int))(i:Nat)(syn dp gr dv:Bool)(s:ByteArray)(w:World)(e:Ending)(w':World):Prop:=
 e = .returned (.tuple #[])∧Qaa (fun b=>b=p) w w'∧((Qwa L i=s→QKa w' p L (i+1) syn dp gr dv)∧(Qwa L i≠s→QKa w' p L i true dp gr dv))
set_option maxRecDepth 100000 in
theorem QOl(p:Nat)(L:List (Int × ByteArray × Int))(i:Nat)(syn dp gr dv:Bool)(s:ByteArray)(w:World)(h:QKa w p L i syn dp gr dv)(hs:s≠⟨#[]⟩) :
 Calls Tryz.prog 158 #[.pointer (some ⟨p,0,none⟩),.string s] w (QYk p L i syn dp gr dv s w):=by
 have Hf:=Qie p L i syn dp gr dv w h
 unfold Qhc at Hf
 have nG:i≤1000000000:=by obtain⟨_,_,_,h1,h2⟩:=h;omega
 by_cases hy:Qwa L i=s
 ·have hn:i+1≤L.length:=QQc (by rw[hy];exact hs)
  have G7:=hid (hy ▸ Hf)
  have HY:=hid hy
  clear Hf hy
  go_enter Tryz.func158,Tryz.ntmps158
  go_wp2_with fail
  refine(by exact G7.out:Calls _ _ _ _ _).mono ?_
  rintro e w1 ⟨rfl,Hz,Ht⟩
  have Gq:=hid Hz
  obtain⟨c1,_,_,_,_,f1,_,_,_,_,cl,_,_⟩:=Hz.cells
  clear Hz
  go_wp2_with fail
  go_end0
  obtain⟨h2,h3⟩:=Gq.out.next hn
  exact⟨rfl,(Ht.mono (fun _ _ e=>e.elim)).trans h3 (fun _ _ e=>e),fun _=>h2,fun e=>absurd HY.out e⟩
 ·have jT:=Qwj hy
  have HY:=hid hy
  have G7:=hid Hf
  clear hy Hf
  obtain⟨t,ht⟩:∃t,t=Qwa L i:=⟨_,rfl⟩
  rw[←ht]at G7 jT
  have HT:=hid ht
  clear ht
  go_enter Tryz.func158,Tryz.ntmps158
  go_wp2_with fail
  refine(by exact G7.out:Calls _ _ _ _ _).mono ?_
  rintro e w1 ⟨rfl,Hz,Ht⟩
  have Gq:=hid Hz
  obtain⟨_,c2,_,_,_,_,f2,_,_,_,cl,Jq,_⟩:=Hz.cells
  clear Hz
  go_wp2_with fail
  refine bodyPost_ret (results_none rfl _ _ _) rfl ?_
  obtain⟨h2,h3⟩:=Gq.out.put 2 (.bool true) (i':=i) (syn':=true) (dp':=dp) (gr':=gr) (dv':=dv) Jq (fun _=>rfl)
  exact⟨rfl,(Ht.mono (fun _ _ e=>e.elim)).trans h3 (fun _ _ e=>e),fun e=>absurd e HY.out,fun _=>h2⟩
theorem QZb(b:Bool)(w:World):Calls Tryz.prog 156 #[.bool b] w fun e w'=>e = .returned (.int .u32 (Qvc b))∧w=w':=by
 go_enter Tryz.func156,Tryz.ntmps156
 cases b
 all_goals
  go_wp2_with fail
  go_ret
  exact⟨rfl,rfl⟩
def Q8a(p:Nat)(L:List (Int × ByteArray × Int))(i:Nat)(syn dp gr dv:Bool)(f:Nat)(a b:Int)(w:World)(e:Ending)(w':World):Prop:=
 e = .returned (.int .u32 (if Qdb f b=true then 0 else QPb f a b))∧QKa w' p L i syn dp gr (dv || Qdb f b)∧Qaa (fun x=>x=p) w w'
theorem QKo(p:Nat)(L:List (Int × ByteArray × Int))(i:Nat)(syn dp gr dv:Bool)(a b:Int)(w:World)(h:QKa w p L i syn dp gr dv)(ha:0≤a)(Hv:a≤4294967295)(hb:0≤b)(He:b≤4294967295) :
 Calls Tryz.prog 185 #[.pointer (some ⟨p,0,none⟩),.string ⟨#[42]⟩,.int .u32 a,.int .u32 b] w (Q8a p L i syn dp gr dv 1 a b w):=by
 have gM:=hid (show Qdb 1 b=false from by unfold Qdb;simp)
 have HR:=hid h
 clear h
 go_enter Tryz.func185,Tryz.ntmps185
 go_wp2_with fail
 go_ret
 exact⟨by rw[gM.out];rfl,by rw[gM.out,Bool.or_false];exact HR.out,Qaa.refl _ _⟩
theorem QLo(p:Nat)(L:List (Int × ByteArray × Int))(i:Nat)(syn dp gr dv:Bool)(a b:Int)(w:World)(h:QKa w p L i syn dp gr dv)(ha:0≤a)(Hv:a≤4294967295)(hb:0≤b)(He:b≤4294967295) :
 Calls Tryz.prog 185 #[.pointer (some ⟨p,0,none⟩),.string ⟨#[47]⟩,.int .u32 a,.int .u32 b] w (Q8a p L i syn dp gr dv 2 a b w):=by
 by_cases h0:b=0
 ·subst h0
  have HR:=hid h
  obtain⟨_,_,_,_,c5,_,_,_,_,f5,cl,Jq,_⟩:=h.cells
  clear h
  go_enter Tryz.func185,Tryz.ntmps185
  go_wp2_with fail
  go_ret
  obtain⟨h2,h3⟩:=HR.out.put 5 (.bool true) (i':=i) (syn':=syn) (dp':=dp) (gr':=gr) (dv':=true) Jq (fun _=>rfl)
  exact⟨rfl,by rw[show(dv || Qdb 2 0)=true from by cases dv <;> rfl];exact h2,h3⟩
 ·have h0':(b == 0)=false:=by rw[beq_eq_false_iff_ne];exact h0
  have gM:Qdb 2 b=false:=by unfold Qdb;rw[h0'];rfl
  have HR:=hid h
  have HD:=hid gM
  have hb':1≤b:=by omega
  clear h gM
  go_enter Tryz.func185,Tryz.ntmps185
  go_wp2_with fail
  go_ret
  exact⟨by rw[HD.out];rfl,by rw[HD.out,Bool.or_false];exact HR.out,Qaa.refl _ _⟩
theorem QMo(p:Nat)(L:List (Int × ByteArray × Int))(i:Nat)(syn dp gr dv:Bool)(a b:Int)(w:World)(h:QKa w p L i syn dp gr dv)(ha:0≤a)(Hv:a≤4294967295)(hb:0≤b)(He:b≤4294967295) :
 Calls Tryz.prog 185 #[.pointer (some ⟨p,0,none⟩),.string ⟨#[37]⟩,.int .u32 a,.int .u32 b] w (Q8a p L i syn dp gr dv 3 a b w):=by
 by_cases h0:b=0
 ·subst h0
  have HR:=hid h
  obtain⟨_,_,_,_,c5,_,_,_,_,f5,cl,Jq,_⟩:=h.cells
  clear h
  go_enter Tryz.func185,Tryz.ntmps185
  go_wp2_with fail
  go_ret
  obtain⟨h2,h3⟩:=HR.out.put 5 (.bool true) (i':=i) (syn':=syn) (dp':=dp) (gr':=gr) (dv':=true) Jq (fun _=>rfl)
  exact⟨rfl,by rw[show(dv || Qdb 3 0)=true from by cases dv <;> rfl];exact h2,h3⟩
 ·have h0':(b == 0)=false:=by rw[beq_eq_false_iff_ne];exact h0
  have gM:Qdb 3 b=false:=by unfold Qdb;rw[h0'];rfl
  have HR:=hid h
  have HD:=hid gM
  have hb':1≤b:=by omega
  clear h gM
  go_enter Tryz.func185,Tryz.ntmps185
  go_wp2_with fail
  go_ret
  exact⟨by rw[HD.out];rfl,by rw[HD.out,Bool.or_false];exact HR.out,Qaa.refl _ _⟩
theorem QNo(p:Nat)(L:List (Int × ByteArray × Int))(i:Nat)(syn dp gr dv:Bool)(a b:Int)(w:World)(h:QKa w p L i syn dp gr dv)(ha:0≤a)(Hv:a≤4294967295)(hb:0≤b)(He:b≤4294967295) :
 Calls Tryz.prog 185 #[.pointer (some ⟨p,0,none⟩),.string ⟨#[43]⟩,.int .u32 a,.int .u32 b] w (Q8a p L i syn dp gr dv 4 a b w):=by
 have gM:=hid (show Qdb 4 b=false from by unfold Qdb;simp)
 have HR:=hid h
 clear h
 go_enter Tryz.func185,Tryz.ntmps185
 go_wp2_with fail
 go_ret
 exact⟨by rw[gM.out];rfl,by rw[gM.out,Bool.or_false];exact HR.out,Qaa.refl _ _⟩
theorem QOo(p:Nat)(L:List (Int × ByteArray × Int))(i:Nat)(syn dp gr dv:Bool)(a b:Int)(w:World)(h:QKa w p L i syn dp gr dv)(ha:0≤a)(Hv:a≤4294967295)(hb:0≤b)(He:b≤4294967295) :
 Calls Tryz.prog 185 #[.pointer (some ⟨p,0,none⟩),.string ⟨#[45]⟩,.int .u32 a,.int .u32 b] w (Q8a p L i syn dp gr dv 5 a b w):=by
 have gM:=hid (show Qdb 5 b=false from by unfold Qdb;simp)
 have HR:=hid h
 clear h
 go_enter Tryz.func185,Tryz.ntmps185
 go_wp2_with fail
 go_ret
 exact⟨by rw[gM.out];rfl,by rw[gM.out,Bool.or_false];exact HR.out,Qaa.refl _ _⟩
theorem QPo(p:Nat)(L:List (Int × ByteArray × Int))(i:Nat)(syn dp gr dv:Bool)(a b:Int)(w:World)(h:QKa w p L i syn dp gr dv)(ha:0≤a)(Hv:a≤4294967295)(hb:0≤b)(He:b≤4294967295) :
 Calls Tryz.prog 185 #[.pointer (some ⟨p,0,none⟩),.string ⟨#[60,60]⟩,.int .u32 a,.int .u32 b] w (Q8a p L i syn dp gr dv 6 a b w):=by
 have gM:=hid (show Qdb 6 b=false from by unfold Qdb;simp)
 have HR:=hid h
 clear h
 by_cases h32:32≤b
 ·have hz:QPb 6 a b=0:=by
   have e:min b.toNat 32=32:=by omega
   show a*2 ^ min b.toNat 32 % 4294967296=0
   rw[e]
   exact Int.mul_emod_left a 4294967296
  have HZ:=hid hz
  clear hz
  go_enter Tryz.func185,Tryz.ntmps185
  go_wp2_with fail
  go_ret
  exact⟨by rw[gM.out,HZ.out];rfl,by rw[gM.out,Bool.or_false];exact HR.out,Qaa.refl _ _⟩
 ·have hm:=hid (show QPb 6 a b=a*2 ^ b.toNat % 4294967296 from by
   show a*2 ^ min b.toNat 32 % 4294967296=_
   rw[show min b.toNat 32=b.toNat from by omega])
  go_enter Tryz.func185,Tryz.ntmps185
  go_wp2_with fail
  go_ret
  exact⟨by rw[gM.out,if_neg (by simp),hm.out];rfl,by rw[gM.out,Bool.or_false];exact HR.out,Qaa.refl _ _⟩
theorem QQo(p:Nat)(L:List (Int × ByteArray × Int))(i:Nat)(syn dp gr dv:Bool)(a b:Int)(w:World)(h:QKa w p L i syn dp gr dv)(ha:0≤a)(Hv:a≤4294967295)(hb:0≤b)(He:b≤4294967295) :
 Calls Tryz.prog 185 #[.pointer (some ⟨p,0,none⟩),.string ⟨#[62,62]⟩,.int .u32 a,.int .u32 b] w (Q8a p L i syn dp gr dv 7 a b w):=by
 have gM:=hid (show Qdb 7 b=false from by unfold Qdb;simp)
 have HR:=hid h
 clear h
 by_cases h32:32≤b
 ·have hz:QPb 7 a b=0:=by
   have e:min b.toNat 32=32:=by omega
   show a / 2 ^ min b.toNat 32=0
   rw[e]
   exact Int.ediv_eq_zero_of_lt ha (by show a<4294967296;omega)
  have HZ:=hid hz
  clear hz
  go_enter Tryz.func185,Tryz.ntmps185
  go_wp2_with fail
  go_ret
  exact⟨by rw[gM.out,HZ.out];rfl,by rw[gM.out,Bool.or_false];exact HR.out,Qaa.refl _ _⟩
 ·have hm:=hid (show QPb 7 a b=a / 2 ^ b.toNat from by
   show a / 2 ^ min b.toNat 32=_
   rw[show min b.toNat 32=b.toNat from by omega])
  go_enter Tryz.func185,Tryz.ntmps185
  go_wp2_with fail
  go_ret
  exact⟨by rw[gM.out,if_neg (by simp),hm.out];rfl,by rw[gM.out,Bool.or_false];exact HR.out,Qaa.refl _ _⟩
theorem QRo(p:Nat)(L:List (Int × ByteArray × Int))(i:Nat)(syn dp gr dv:Bool)(a b:Int)(w:World)(h:QKa w p L i syn dp gr dv)(ha:0≤a)(Hv:a≤4294967295)(hb:0≤b)(He:b≤4294967295) :
 Calls Tryz.prog 185 #[.pointer (some ⟨p,0,none⟩),.string ⟨#[60]⟩,.int .u32 a,.int .u32 b] w (Q8a p L i syn dp gr dv 8 a b w):=by
 have gM:=hid (show Qdb 8 b=false from by unfold Qdb;simp)
 have HR:=hid h
 clear h
 go_enter Tryz.func185,Tryz.ntmps185
 go_wp2_with fail
 all_goals
  refine(QZb _ _).mono ?_
  rintro e w1 ⟨rfl,rfl⟩
  go_wp2_with fail
  go_ret
  exact⟨by rw[gM.out];rfl,by rw[gM.out,Bool.or_false];exact HR.out,Qaa.refl _ _⟩
theorem QSo(p:Nat)(L:List (Int × ByteArray × Int))(i:Nat)(syn dp gr dv:Bool)(a b:Int)(w:World)(h:QKa w p L i syn dp gr dv)(ha:0≤a)(Hv:a≤4294967295)(hb:0≤b)(He:b≤4294967295) :
 Calls Tryz.prog 185 #[.pointer (some ⟨p,0,none⟩),.string ⟨#[62]⟩,.int .u32 a,.int .u32 b] w (Q8a p L i syn dp gr dv 9 a b w):=by
 have gM:=hid (show Qdb 9 b=false from by unfold Qdb;simp)
 have HR:=hid h
 clear h
 go_enter Tryz.func185,Tryz.ntmps185
 go_wp2_with fail
 all_goals
  refine(QZb _ _).mono ?_
  rintro e w1 ⟨rfl,rfl⟩
  go_wp2_with fail
  go_ret
  exact⟨by rw[gM.out];rfl,by rw[gM.out,Bool.or_false];exact HR.out,Qaa.refl _ _⟩
theorem Qfn(p:Nat)(L:List (Int × ByteArray × Int))(i:Nat)(syn dp gr dv:Bool)(a b:Int)(w:World)(h:QKa w p L i syn dp gr dv)(ha:0≤a)(Hv:a≤4294967295)(hb:0≤b)(He:b≤4294967295) :
 Calls Tryz.prog 185 #[.pointer (some ⟨p,0,none⟩),.string ⟨#[60,61]⟩,.int .u32 a,.int .u32 b] w (Q8a p L i syn dp gr dv 10 a b w):=by
 have gM:=hid (show Qdb 10 b=false from by unfold Qdb;simp)
 have HR:=hid h
 clear h
 go_enter Tryz.func185,Tryz.ntmps185
 go_wp2_with fail
 all_goals
  refine(QZb _ _).mono ?_
  rintro e w1 ⟨rfl,rfl⟩
  go_wp2_with fail
  go_ret
  exact⟨by rw[gM.out];rfl,by rw[gM.out,Bool.or_false];exact HR.out,Qaa.refl _ _⟩
theorem Qgn(p:Nat)(L:List (Int × ByteArray × Int))(i:Nat)(syn dp gr dv:Bool)(a b:Int)(w:World)(h:QKa w p L i syn dp gr dv)(ha:0≤a)(Hv:a≤4294967295)(hb:0≤b)(He:b≤4294967295) :
 Calls Tryz.prog 185 #[.pointer (some ⟨p,0,none⟩),.string ⟨#[62,61]⟩,.int .u32 a,.int .u32 b] w (Q8a p L i syn dp gr dv 11 a b w):=by
 have gM:=hid (show Qdb 11 b=false from by unfold Qdb;simp)
 have HR:=hid h
 clear h
 go_enter Tryz.func185,Tryz.ntmps185
 go_wp2_with fail
 all_goals
  refine(QZb _ _).mono ?_
  rintro e w1 ⟨rfl,rfl⟩
  go_wp2_with fail
  go_ret
  exact⟨by rw[gM.out];rfl,by rw[gM.out,Bool.or_false];exact HR.out,Qaa.refl _ _⟩
theorem Qhn(p:Nat)(L:List (Int × ByteArray × Int))(i:Nat)(syn dp gr dv:Bool)(a b:Int)(w:World)(h:QKa w p L i syn dp gr dv)(ha:0≤a)(Hv:a≤4294967295)(hb:0≤b)(He:b≤4294967295) :
 Calls Tryz.prog 185 #[.pointer (some ⟨p,0,none⟩),.string ⟨#[61,61]⟩,.int .u32 a,.int .u32 b] w (Q8a p L i syn dp gr dv 12 a b w):=by
 have gM:=hid (show Qdb 12 b=false from by unfold Qdb;simp)
 have HR:=hid h
 clear h
 go_enter Tryz.func185,Tryz.ntmps185
 go_wp2_with fail
 all_goals
  refine(QZb _ _).mono ?_
  rintro e w1 ⟨rfl,rfl⟩
  go_wp2_with fail
  go_ret
  exact⟨by rw[gM.out];rfl,by rw[gM.out,Bool.or_false];exact HR.out,Qaa.refl _ _⟩
theorem Qin(p:Nat)(L:List (Int × ByteArray × Int))(i:Nat)(syn dp gr dv:Bool)(a b:Int)(w:World)(h:QKa w p L i syn dp gr dv)(ha:0≤a)(Hv:a≤4294967295)(hb:0≤b)(He:b≤4294967295) :
 Calls Tryz.prog 185 #[.pointer (some ⟨p,0,none⟩),.string ⟨#[33,61]⟩,.int .u32 a,.int .u32 b] w (Q8a p L i syn dp gr dv 13 a b w):=by
 have gM:=hid (show Qdb 13 b=false from by unfold Qdb;simp)
 have HR:=hid h
 clear h
 go_enter Tryz.func185,Tryz.ntmps185
 go_wp2_with fail
 all_goals
  refine(QZb _ _).mono ?_
  rintro e w1 ⟨rfl,rfl⟩
  go_wp2_with fail
  go_ret
  exact⟨by rw[gM.out];rfl,by rw[gM.out,Bool.or_false];exact HR.out,Qaa.refl _ _⟩
theorem Qjn(p:Nat)(L:List (Int × ByteArray × Int))(i:Nat)(syn dp gr dv:Bool)(a b:Int)(w:World)(h:QKa w p L i syn dp gr dv)(ha:0≤a)(Hv:a≤4294967295)(hb:0≤b)(He:b≤4294967295) :
 Calls Tryz.prog 185 #[.pointer (some ⟨p,0,none⟩),.string ⟨#[38]⟩,.int .u32 a,.int .u32 b] w (Q8a p L i syn dp gr dv 14 a b w):=by
 have gM:=hid (show Qdb 14 b=false from by unfold Qdb;simp)
 have HR:=hid h
 clear h
 go_enter Tryz.func185,Tryz.ntmps185
 go_wp2_with fail
 go_ret
 exact⟨by rw[gM.out];rfl,by rw[gM.out,Bool.or_false];exact HR.out,Qaa.refl _ _⟩
theorem Qkn(p:Nat)(L:List (Int × ByteArray × Int))(i:Nat)(syn dp gr dv:Bool)(a b:Int)(w:World)(h:QKa w p L i syn dp gr dv)(ha:0≤a)(Hv:a≤4294967295)(hb:0≤b)(He:b≤4294967295) :
 Calls Tryz.prog 185 #[.pointer (some ⟨p,0,none⟩),.string ⟨#[94]⟩,.int .u32 a,.int .u32 b] w (Q8a p L i syn dp gr dv 15 a b w):=by
 have gM:=hid (show Qdb 15 b=false from by unfold Qdb;simp)
 have HR:=hid h
 clear h
 go_enter Tryz.func185,Tryz.ntmps185
 go_wp2_with fail
 go_ret
 exact⟨by rw[gM.out];rfl,by rw[gM.out,Bool.or_false];exact HR.out,Qaa.refl _ _⟩
theorem Qln(p:Nat)(L:List (Int × ByteArray × Int))(i:Nat)(syn dp gr dv:Bool)(a b:Int)(w:World)(h:QKa w p L i syn dp gr dv)(ha:0≤a)(Hv:a≤4294967295)(hb:0≤b)(He:b≤4294967295) :
 Calls Tryz.prog 185 #[.pointer (some ⟨p,0,none⟩),.string ⟨#[124]⟩,.int .u32 a,.int .u32 b] w (Q8a p L i syn dp gr dv 16 a b w):=by
 have gM:=hid (show Qdb 16 b=false from by unfold Qdb;simp)
 have HR:=hid h
 clear h
 go_enter Tryz.func185,Tryz.ntmps185
 go_wp2_with fail
 go_ret
 exact⟨by rw[gM.out];rfl,by rw[gM.out,Bool.or_false];exact HR.out,Qaa.refl _ _⟩
theorem Qmn(p:Nat)(L:List (Int × ByteArray × Int))(i:Nat)(syn dp gr dv:Bool)(a b:Int)(w:World)(h:QKa w p L i syn dp gr dv)(ha:0≤a)(Hv:a≤4294967295)(hb:0≤b)(He:b≤4294967295) :
 Calls Tryz.prog 185 #[.pointer (some ⟨p,0,none⟩),.string ⟨#[38,38]⟩,.int .u32 a,.int .u32 b] w (Q8a p L i syn dp gr dv 17 a b w):=by
 have gM:=hid (show Qdb 17 b=false from by unfold Qdb;simp)
 have HR:=hid h
 clear h
 by_cases h0:a=0
 ·subst h0
  have e0:=hid (show QPb 17 0 b=Qvc false from by simp[QPb])
  go_enter Tryz.func185,Tryz.ntmps185
  go_wp2_with fail
  refine(QZb _ _).mono ?_
  rintro e w1 ⟨rfl,rfl⟩
  go_wp2_with fail
  go_ret
  exact⟨by rw[gM.out,if_neg (by simp),e0.out];rfl,by rw[gM.out,Bool.or_false];exact HR.out,Qaa.refl _ _⟩
 ·have h1:(a != 0)=true:=by rw[bne_iff_ne];exact h0
  have e0:=hid (show QPb 17 a b=Qvc (b != 0)from by show Qvc (a != 0 && b != 0)=_;rw[h1];rfl)
  go_enter Tryz.func185,Tryz.ntmps185
  go_wp2_with fail
  refine(QZb _ _).mono ?_
  rintro e w1 ⟨rfl,rfl⟩
  go_wp2_with fail
  go_ret
  exact⟨by rw[gM.out,if_neg (by simp),e0.out];rfl,by rw[gM.out,Bool.or_false];exact HR.out,Qaa.refl _ _⟩
theorem Qnn(p:Nat)(L:List (Int × ByteArray × Int))(i:Nat)(syn dp gr dv:Bool)(a b:Int)(w:World)(h:QKa w p L i syn dp gr dv)(ha:0≤a)(Hv:a≤4294967295)(hb:0≤b)(He:b≤4294967295) :
 Calls Tryz.prog 185 #[.pointer (some ⟨p,0,none⟩),.string ⟨#[124,124]⟩,.int .u32 a,.int .u32 b] w (Q8a p L i syn dp gr dv 18 a b w):=by
 have gM:=hid (show Qdb 18 b=false from by unfold Qdb;simp)
 have HR:=hid h
 clear h
 by_cases h0:a=0
 ·subst h0
  have e0:=hid (show QPb 18 0 b=Qvc (b != 0)from by simp[QPb])
  go_enter Tryz.func185,Tryz.ntmps185
  go_wp2_with fail
  refine(QZb _ _).mono ?_
  rintro e w1 ⟨rfl,rfl⟩
  go_wp2_with fail
  go_ret
  exact⟨by rw[gM.out,if_neg (by simp),e0.out];rfl,by rw[gM.out,Bool.or_false];exact HR.out,Qaa.refl _ _⟩
 ·have h1:(a != 0)=true:=by rw[bne_iff_ne];exact h0
  have e0:=hid (show QPb 18 a b=Qvc true from by show Qvc (a != 0 || b != 0)=_;rw[h1];rfl)
  go_enter Tryz.func185,Tryz.ntmps185
  go_wp2_with fail
  refine(QZb _ _).mono ?_
  rintro e w1 ⟨rfl,rfl⟩
  go_wp2_with fail
  go_ret
  exact⟨by rw[gM.out,if_neg (by simp),e0.out];rfl,by rw[gM.out,Bool.or_false];exact HR.out,Qaa.refl _ _⟩
end Go.Proofs.YtofhcgbihonckaaGreat
