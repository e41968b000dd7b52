/- The reader of package expression in memory; its sign and expect. | The reader of package expression: its fields, sign, expect. | The reader of package expression: primary. | The reader of package expression: primary at a number, 0. | The reader of package expression: primary at a number, 1. | The reader of package expression: primary at a number, 2. | The reader of package expression: primary. | bringupref02: the parser in memory; sign, take, truth. | bringupref02: apply (printed by grfe.py). -/
import Derived.Test.YtofhcgbihonckaaGreatZ1
import Derived.BigQuiet
set_option linter.all false
set_option maxHeartbeats 8000000
namespace Go.Proofs.YtofhcgbihonckaaGreat
open Go.Lib (hid)
open Go.RowKit
section
variable{L:List (Int × ByteArray × Int)}{d i k:Nat}{v:Int}
theorem QIg(hs:Qya L i=⟨#[40]⟩)(h:Rd L .whole (d+1) (i+1) none):Rd L .prim d i none:=by
 obtain⟨n,h⟩:=h;exact⟨n+1,by rw[evT,if_pos hs,h];rfl⟩
theorem Qwh{q:Int × Nat × Bool × Bool × Bool}(hs:Qya L i=⟨#[40]⟩)(h:Rd L .whole (d+1) (i+1) (some q))(h2:Qya L q.2.1≠⟨#[41]⟩):Rd L .prim d i none:=by
 obtain⟨n,h⟩:=h;exact⟨n+1,by rw[evT,if_pos hs,h];show some (if _ then _ else _)=_;rw[if_neg h2]⟩
theorem Q0m{q:Int × Nat × Bool × Bool × Bool}(hs:Qya L i=⟨#[40]⟩)(h:Rd L .whole (d+1) (i+1) (some q))(h2:Qya L q.2.1=⟨#[41]⟩):Rd L .prim d i (some (q.1,q.2.1+1,q.2.2)):=by
 obtain⟨n,h⟩:=h;exact⟨n+1,by rw[evT,if_pos hs,h];show some (if _ then _ else _)=_;rw[if_pos h2]⟩
theorem Q9i{t:Int × ByteArray × Int}(hs:Qya L i≠⟨#[40]⟩)(h:L[i]? = some t)(h2:t.1=2):Rd L .prim d i (some (t.2.2 % 4294967296,i+1,decide (8<d),decide (t.2.2<0) || decide (4294967295<t.2.2),false)):=
 ⟨1,by rw[evT,if_neg hs,h];show some (if _ then _ else _)=_;rw[if_pos h2]⟩
theorem Q5f(hs:Qya L i≠⟨#[40]⟩)(h:∀t,L[i]? = some t→t.1≠2):Rd L .prim d i none:=
 ⟨1,by
  rw[evT,if_neg hs]
  cases e:L[i]? with
  | none=>rfl
  | some t=>show some (if _ then _ else _)=_;rw[if_neg (h t e)]⟩
theorem Qdq{r:Option (Int × Nat × Bool × Bool × Bool)}(hs:unB (Qya L i)=true)(h:Rd L .opnd d (i+1) r):Rd L .opnd d i (r.map fun q=>(unT (Qya L i) q.1,q.2)):=by
 obtain⟨n,h⟩:=h;exact⟨n+1,by rw[evT,if_pos hs,h];rfl⟩
theorem Q9h{r:Option (Int × Nat × Bool × Bool × Bool)}(hs:unB (Qya L i)=false)(h:Rd L .prim d i r):Rd L .opnd d i r:=by
 obtain⟨n,h⟩:=h;exact⟨n+1,by rw[evT,if_neg (by rw[hs];simp),h]⟩
theorem QHg{r:Option (Int × Nat × Bool × Bool × Bool)}(h:Rd L .opnd d i r):Rd L (.lvl 0) d i r:=by
 obtain⟨n,h⟩:=h;exact⟨n+1,by rw[evT,h]⟩
theorem QKe(h:Rd L (.lvl k) d i none):Rd L (.lvl (k+1)) d i none:=by
 obtain⟨n,h⟩:=h;exact⟨n+1,by rw[evT,h];rfl⟩
theorem QVk{q:Int × Nat × Bool × Bool × Bool}{r:Option (Int × Nat × Bool × Bool × Bool)}(h:Rd L (.lvl k) d i (some q))(h2:Rd L (.loop k q.1) d q.2.1 r):Rd L (.lvl (k+1)) d i (r.map fun q2=>(q2.1,q2.2.1,orF q.2.2 q2.2.2)):=by
 obtain⟨n,h⟩:=h;obtain⟨m,h2⟩:=h2
 exact⟨max n m+1,by rw[evT,Qmf L (Nat.le_max_left n m) h];show Option.map _ _=_;rw[Qmf L (Nat.le_max_right n m) h2];rfl⟩
theorem QLd(h:Qlc k (Qya L i)=none):Rd L (.loop k v) d i (some (v,i,noF)):=⟨1,by rw[evT,h]⟩
theorem QNf{f:Nat}(hr:Qlc k (Qya L i)=some f)(h:Rd L (.lvl k) d (i+1) none):Rd L (.loop k v) d i none:=by
 obtain⟨n,h⟩:=h;exact⟨n+1,by rw[evT,hr];show Option.bind _ _=_;rw[h];rfl⟩
theorem Q8h{f:Nat}{q:Int × Nat × Bool × Bool × Bool}{r:Option (Int × Nat × Bool × Bool × Bool)}(hr:Qlc k (Qya L i)=some f)(h:Rd L (.lvl k) d (i+1) (some q))
 (h2:Rd L (.loop k (Q4b f v (if Qib f q.1=true then 1 else q.1))) d q.2.1 r):Rd L (.loop k v) d i (r.map fun q2=>(q2.1,q2.2.1,orF (orF q.2.2 (false,false,Qib f q.1)) q2.2.2)):=by
 obtain⟨n,h⟩:=h;obtain⟨m,h2⟩:=h2
 exact⟨max n m+1,by rw[evT,hr];show Option.bind _ _=_;rw[Qmf L (Nat.le_max_left n m) h];show Option.map _ _=_;rw[Qmf L (Nat.le_max_right n m) h2];rfl⟩
theorem Q8e(h:Rd L (.lvl 10) d i none):Rd L .whole d i none:=by
 obtain⟨n,h⟩:=h;exact⟨n+1,by rw[evT,h];rfl⟩
theorem Q6f{q:Int × Nat × Bool × Bool × Bool}(h:Rd L (.lvl 10) d i (some q))(hs:Qya L q.2.1≠⟨#[63]⟩):Rd L .whole d i (some q):=by
 obtain⟨n,h⟩:=h;exact⟨n+1,by rw[evT,h];show(if _ then _ else _)=_;rw[if_neg hs]⟩
theorem Qvh{q:Int × Nat × Bool × Bool × Bool}(h:Rd L (.lvl 10) d i (some q))(hs:Qya L q.2.1=⟨#[63]⟩)(h2:Rd L .whole d (q.2.1+1) none):Rd L .whole d i none:=by
 obtain⟨n,h⟩:=h;obtain⟨m,h2⟩:=h2
 exact⟨max n m+1,by rw[evT,Qmf L (Nat.le_max_left n m) h];show(if _ then _ else _)=_;rw[if_pos hs,Qmf L (Nat.le_max_right n m) h2];rfl⟩
theorem Q8i{q y:Int × Nat × Bool × Bool × Bool}(h:Rd L (.lvl 10) d i (some q))(hs:Qya L q.2.1=⟨#[63]⟩)(h2:Rd L .whole d (q.2.1+1) (some y))(hc:Qya L y.2.1≠⟨#[58]⟩):Rd L .whole d i none:=by
 obtain⟨n,h⟩:=h;obtain⟨m,h2⟩:=h2
 exact⟨max n m+1,by rw[evT,Qmf L (Nat.le_max_left n m) h];show(if _ then _ else _)=_;rw[if_pos hs,Qmf L (Nat.le_max_right n m) h2];show(if _ then _ else _)=_;rw[if_neg hc]⟩
theorem QYm{q y:Int × Nat × Bool × Bool × Bool}{r:Option (Int × Nat × Bool × Bool × Bool)}(h:Rd L (.lvl 10) d i (some q))(hs:Qya L q.2.1=⟨#[63]⟩)(h2:Rd L .whole d (q.2.1+1) (some y))(hc:Qya L y.2.1=⟨#[58]⟩)
 (h3:Rd L .whole d (y.2.1+1) r):Rd L .whole d i (r.map fun z=>(if q.1=0 then z.1 else y.1,z.2.1,orF (orF q.2.2 y.2.2) z.2.2)):=by
 obtain⟨n,h⟩:=h;obtain⟨m,h2⟩:=h2;obtain⟨o,h3⟩:=h3
 have a1:=Qmf L (Nat.le_trans (Nat.le_max_left n m) (Nat.le_max_left (max n m) o)) h
 have a2:=Qmf L (Nat.le_trans (Nat.le_max_right n m) (Nat.le_max_left (max n m) o)) h2
 have a3:=Qmf L (Nat.le_max_right (max n m) o) h3
 exact⟨max (max n m) o+1,by rw[evT,a1];show(if _ then _ else _)=_;rw[if_pos hs,a2];show(if _ then _ else _)=_;rw[if_pos hc,a3];rfl⟩
end
def Qcg(R:Nat→Prop)(w:World)(v:Value)(L:List (Int × ByteArray × Int)):Prop:=
 ∃(a:Option Addr) (cap:Nat),v = .slice a L.length cap∧(∀t∈L,t.2.1.size≤maxLen)∧(0<L.length→∃g o,a=some ⟨g,o,none⟩∧R g∧∀(j:Nat) (h:j<L.length),
  w.cell? ⟨g,o+j*6,none⟩=some (.int .i64 L[j].1)∧w.cell? ⟨g,o+j*6+1,none⟩=some (.string L[j].2.1)∧w.cell? ⟨g,o+j*6+2,none⟩=some (.int .i64 L[j].2.2))
theorem Qcg.keeps{R S:Nat→Prop}{w w':World}{v:Value}{L:List (Int × ByteArray × Int)}(h:Qcg R w v L)(k:Qaa S w w')(hs:∀g,R g→¬S g):Qcg R w' v L:=by
 obtain⟨a,cap,e,h1,h2⟩:=h
 refine⟨a,cap,e,h1,fun h0=>?_⟩
 obtain⟨g,o,ea,hR,hc⟩:=h2 h0
 refine⟨g,o,ea,hR,fun j hj=>?_⟩
 obtain⟨c0,c1,c2⟩:=hc j hj
 have Hh:=World.block_lt_of_cell? w _ c0
 exact⟨(k.cell (p:=⟨g,o+j*6,none⟩) Hh (hs g hR)).trans c0,(k.cell (p:=⟨g,o+j*6+1,none⟩) Hh (hs g hR)).trans c1,(k.cell (p:=⟨g,o+j*6+2,none⟩) Hh (hs g hR)).trans c2⟩
theorem Qif.keeps{S:Nat→Prop}{w w':World}{g:Nat}{bs:List Nat}(h:Qif w g bs)(k:Qaa S w w')(hg:¬S g)(hb:∀b∈bs,¬S b):Qif w' g bs:=by
 obtain⟨h1,h2,h3⟩:=h
 exact⟨h1.keeps k hg,h2,fun i hi=>(h3 i hi).block (k.block _ (h3 i hi).lt (hb _ (List.getElem_mem hi)))⟩
def QNa(w:World)(r:Nat)(L:List (Int × ByteArray × Int))(i d:Nat)(syn dp gr dv:Bool):Prop:=
 ∃lv g bs,Qca w r #[lv,.slice (some ⟨g,0,none⟩) 10 10,.int .i64 i,.int .i64 d,.bool syn,.bool dp,.bool gr,.bool dv] 190∧Qcg (fun x=>x≠r) w lv L∧Qif w g bs∧g≠r∧(∀b∈bs,b≠r)∧i≤L.length∧L.length≤1000000000∧d≤i
theorem QNa.keeps{w w':World}{r:Nat}{L:List (Int × ByteArray × Int)}{i d:Nat}{syn dp gr dv:Bool}(h:QNa w r L i d syn dp gr dv)(k:Qaa (fun _=>False) w w'):QNa w' r L i d syn dp gr dv:=by
 obtain⟨lv,g,bs,h1,h2,h3,h4⟩:=h
 exact⟨lv,g,bs,h1.keeps k (fun e=>e),h2.keeps k (fun _ _ e=>e),h3.keeps k (fun e=>e) (fun _ _ e=>e),h4⟩
section
variable{w:World}{r:Nat}{L:List (Int × ByteArray × Int)}{i d:Nat}{syn dp gr dv:Bool}
theorem QNa.put(h:QNa w r L i d syn dp gr dv)(o:Nat)(x:Value){i' d':Nat}{syn' dp' gr' dv':Bool}(hi:i'≤L.length)(hd:d'≤i')
 (he:∀lv rv:Value,(#[lv,rv,.int .i64 i,.int .i64 d,.bool syn,.bool dp,.bool gr,.bool dv]:Array Value).setIfInBounds o x=#[lv,rv,.int .i64 i',.int .i64 d',.bool syn',.bool dp',.bool gr',.bool dv']) :
 QNa (w.setCell ⟨r,o,none⟩ x) r L i' d' syn' dp' gr' dv'∧Qaa (fun b=>b=r) w (w.setCell ⟨r,o,none⟩ x):=by
 obtain⟨lv,g,bs,h1,h2,h3,h4,h5,_,h7,_⟩:=h
 have k:=(Qaa.refl (fun b=>b=r) w).setCell (p:=⟨r,o,none⟩) (.inr rfl) x
 exact⟨⟨lv,g,bs,by rw[←he];exact h1.set o x,h2.keeps k (fun _ hg e=>hg e),h3.keeps k h4 h5,h4,h5,hi,h7,hd⟩,k⟩
theorem QNa.next(h:QNa w r L i d syn dp gr dv)(hi:i+1≤L.length):QNa (w.setCell ⟨r,2,none⟩ (.int .i64 ((i+1:Nat):Int))) r L (i+1) d syn dp gr dv∧Qaa (fun b=>b=r) w (w.setCell ⟨r,2,none⟩ (.int .i64 ((i+1:Nat):Int))):=
 h.put 2 _ hi (by obtain⟨_,_,_,_,_,_,_,_,_,_,hd⟩:=h;omega) (fun _ _=>rfl)
end
theorem Qkk{a b:ByteArray}(h:a≠b):(a.toList == b.toList)=false:=by
 rw[beq_eq_false_iff_ne,ByteArray.toList_eq,ByteArray.toList_eq]
 intro e;exact h (by apply ByteArray.ext;exact Array.toList_inj.1 e)
def Qjb(r:Nat)(L:List (Int × ByteArray × Int))(i d:Nat)(syn dp gr dv:Bool)(w:World)(e:Ending)(w':World):Prop:=
 e = .returned (.string (if syn=true then⟨#[]⟩else Qya L i))∧QNa w' r L i d syn dp gr dv∧Qaa (fun _=>False) w w'
theorem Qda(w:World)(n:Nat):Qaa (fun _=>False) w (w.drewN n):=(Qaa.refl _ w).drewN n
set_option maxRecDepth 100000 in
theorem Qpb(r:Nat)(L:List (Int × ByteArray × Int))(i d:Nat)(syn dp gr dv:Bool)(w:World)(h:QNa w r L i d syn dp gr dv) :
 Calls Tryz.prog 160 #[.pointer (some ⟨r,0,none⟩)] w (Qjb r L i d syn dp gr dv w):=by
 have HR:=hid h
 obtain⟨lv,g,bs,hH,⟨a,cap,rfl,gn,mP⟩,_,_,_,ah,aS,_⟩:=h
 have gA:=hid mP
 clear mP gn
 have c0:=hH.cell 0
 have c2:=hH.cell 2
 have c4:=hH.cell 4
 have cl:=hH.lt
 cases syn with
 | true=>
  go_enter Tryz.func160,Tryz.ntmps160
  go_wp2_with fail
  go_quiet (fail)
  go_wp2_with fail
  go_ret
  exact⟨rfl,HR.out.keeps (Qda _ _),Qda _ _⟩
 | false=>
  by_cases Hh:i<L.length
  ·have Mv:(i:Int)<(L.length:Int):=by omega
   have Kn:¬((L.length:Int)≤(i:Int)):=by omega
   obtain⟨gt,ot,rfl,_,hc⟩:=gA.out (by omega)
   obtain⟨d0,d1,_⟩:=hc i Hh
   have hs:Qya L i=if L[i].1=4 then L[i].2.1 else⟨#[]⟩:=by unfold Qya;rw[List.getElem?_eq_getElem Hh]
   have HS:=hid hs
   clear hc hs
   generalize L[i].1=kd at *
   generalize L[i].2.1=tx at *
   by_cases hk:kd=4
   ·subst hk
    have Hg:=hid (show Qya L i=tx from by rw[HS.out];rfl)
    go_enter Tryz.func160,Tryz.ntmps160
    go_wp2_with fail
    go_quiet (fail)
    go_wp2_with fail
    go_quiet (fail)
    go_wp2_with fail
    go_ret
    exact⟨by rw[Hg.out];rfl,(HR.out.keeps (Qda _ _)).keeps (Qda _ _),(Qda _ _).drewN _⟩
   ·have kR:(kd != 4)=true:=by simpa using hk
    have Hg:=hid (show Qya L i=⟨#[]⟩from by rw[HS.out,if_neg hk])
    clear hk
    go_enter Tryz.func160,Tryz.ntmps160
    go_wp2_with fail
    go_quiet (fail)
    go_wp2_with fail
    go_ret
    exact⟨by rw[Hg.out];rfl,HR.out.keeps (Qda _ _),Qda _ _⟩
  ·have Mv:¬(i:Int)<(L.length:Int):=by omega
   have Kn:(L.length:Int)≤(i:Int):=by omega
   have Hg:=hid (show Qya L i=⟨#[]⟩from by unfold Qya;rw[List.getElem?_eq_none (by omega)])
   go_enter Tryz.func160,Tryz.ntmps160
   go_wp2_with fail
   go_quiet (fail)
   go_wp2_with fail
   go_ret
   exact⟨by rw[Hg.out];rfl,HR.out.keeps (Qda _ _),Qda _ _⟩
def Qnd(r:Nat)(L:List (Int × ByteArray × Int))(i d:Nat)(syn dp gr dv:Bool)(s:ByteArray)(w:World)(e:Ending)(w':World):Prop:=
 e = .returned (.tuple #[])∧Qaa (fun b=>b=r) w w'∧
  ((syn=false∧Qya L i=s→QNa w' r L (i+1) d false dp gr dv)∧(¬(syn=false∧Qya L i=s)→QNa w' r L i d true dp gr dv))
theorem Qad{L:List (Int × ByteArray × Int)}{i:Nat}(h:Qya L i≠⟨#[]⟩):i<L.length:=by
 rcases Nat.lt_or_ge i L.length with k|k
 ·exact k
 ·exact absurd (by unfold Qya;rw[List.getElem?_eq_none k]) h
set_option maxRecDepth 100000 in
theorem Qde(r:Nat)(L:List (Int × ByteArray × Int))(i d:Nat)(syn dp gr dv:Bool)(s:ByteArray)(w:World)(h:QNa w r L i d syn dp gr dv)(hs:s≠⟨#[]⟩) :
 Calls Tryz.prog 162 #[.pointer (some ⟨r,0,none⟩),.string s] w (Qnd r L i d syn dp gr dv s w):=by
 have Hk:=Qpb r L i d syn dp gr dv w h
 unfold Qjb at Hk
 have mh:syn=false→Qya L i=s→i+1≤L.length:=fun _ e=>Qad (by rw[e];exact hs)
 have oK:i≤1000000000:=by obtain⟨_,_,_,_,_,_,_,_,h1,h2,_⟩:=h;omega
 have lP:=hid mh
 by_cases hy:syn=false∧Qya L i=s
 ·obtain⟨rfl,rfl⟩:=hy
  have hn:=lP.out rfl rfl
  clear mh
  go_enter Tryz.func162,Tryz.ntmps162
  go_wp2_with fail
  refine Hk.mono ?_
  rintro e w1 ⟨rfl,gi,Ht⟩
  have GH:=hid gi
  obtain⟨lv,g,bs,hH,_⟩:=gi
  have c2:=hH.cell 2
  have f2:=hH.free 2
  have cl:=hH.lt
  go_wp2_with fail
  go_end0
  obtain⟨h2,h3⟩:=GH.out.next hn
  rw[show((i+1:Nat):Int)=(i:Int)+1 from by omega]at h2 h3
  exact⟨rfl,(Ht.mono (fun _ _ e=>e.elim)).trans h3 (fun _ _ e=>e),fun _=>h2,fun e=>absurd ⟨rfl,rfl⟩ e⟩
 ·have Hn:(if syn=true then(⟨#[]⟩:ByteArray)else Qya L i)≠s:=by
   cases syn with
   | true=>simpa using hs.symm
   | false=>intro e;exact hy ⟨rfl,e⟩
  generalize (if syn=true then(⟨#[]⟩:ByteArray)else Qya L i)=t at Hk Hn
  have jk:=Qkk Hn
  clear Hn
  have HY:=hid hy
  clear mh hy
  go_enter Tryz.func162,Tryz.ntmps162
  go_wp2_with fail
  refine Hk.mono ?_
  rintro e w1 ⟨rfl,gi,Ht⟩
  have GH:=hid gi
  obtain⟨lv,g,bs,hH,_⟩:=gi
  have c4:=hH.cell 4
  have f4:=hH.free 4
  have cl:=hH.lt
  go_wp2_with fail
  refine bodyPost_ret (results_none rfl _ _ _) rfl ?_
  have sP:d≤i∧i≤L.length:=by obtain⟨_,_,_,_,_,_,_,_,h1,_,h2⟩:=GH.out;exact⟨h2,h1⟩
  obtain⟨h2,h3⟩:=GH.out.put 4 (.bool true) (i':=i) (d':=d) (syn':=true) (dp':=dp) (gr':=gr) (dv':=dv) sP.2 sP.1 (fun _ _=>rfl)
  exact⟨rfl,(Ht.mono (fun _ _ e=>e.elim)).trans h3 (fun _ _ e=>e),fun e=>absurd e HY.out,fun _=>h2⟩
theorem Qic{a:ByteArray}{l:List UInt8}(h:a.toList=l):a=⟨l.toArray⟩:=by
 rw[ByteArray.toList_eq]at h
 apply ByteArray.ext;show a.data=l.toArray;rw[←h]
section
variable{w:World}{r:Nat}{L:List (Int × ByteArray × Int)}{i d:Nat}{syn dp gr dv:Bool}
theorem QNa.cells(h:QNa w r L i d syn dp gr dv):w.cell? ⟨r,2,none⟩=some (.int .i64 i)∧w.cell? ⟨r,3,none⟩=some (.int .i64 d)∧w.cell? ⟨r,4,none⟩=some (.bool syn)∧w.cell? ⟨r,5,none⟩=some (.bool dp)∧w.cell? ⟨r,6,none⟩=some (.bool gr)∧w.cell? ⟨r,7,none⟩=some (.bool dv)∧
 w.frozen? ⟨r,2,none⟩=false∧w.frozen? ⟨r,3,none⟩=false∧w.frozen? ⟨r,4,none⟩=false∧w.frozen? ⟨r,5,none⟩=false∧w.frozen? ⟨r,6,none⟩=false∧w.frozen? ⟨r,7,none⟩=false∧r<w.heap.size∧i≤L.length∧L.length≤1000000000∧d≤i:=by
 obtain⟨lv,g,bs,h1,h2,h3,h4,h5,h6,h7,h8⟩:=h
 exact⟨h1.cell 2,h1.cell 3,h1.cell 4,h1.cell 5,h1.cell 6,h1.cell 7,h1.free 2,h1.free 3,h1.free 4,h1.free 5,h1.free 6,h1.free 7,h1.lt,h6,h7,h8⟩
theorem QNa.on(h:QNa w r L i d syn dp gr dv)(hi:i+1≤L.length):QNa (w.setCell ⟨r,2,none⟩ (.int .i64 ((i:Int)+1))) r L (i+1) d syn dp gr dv∧Qaa (fun b=>b=r) w (w.setCell ⟨r,2,none⟩ (.int .i64 ((i:Int)+1))):=by
 have:=h.next hi
 rwa [show((i+1:Nat):Int)=(i:Int)+1 from by omega]at this
theorem QNa.deeper(h:QNa w r L i d syn dp gr dv)(hd:d+1≤i):QNa (w.setCell ⟨r,3,none⟩ (.int .i64 ((d:Int)+1))) r L i (d+1) syn dp gr dv∧Qaa (fun b=>b=r) w (w.setCell ⟨r,3,none⟩ (.int .i64 ((d:Int)+1))):=by
 have:=h.put 3 (.int .i64 ((d+1:Nat):Int)) (i':=i) (d':=d+1) (syn':=syn) (dp':=dp) (gr':=gr) (dv':=dv) h.cells.2.2.2.2.2.2.2.2.2.2.2.2.2.1 hd (fun _ _=>rfl)
 rwa [show((d+1:Nat):Int)=(d:Int)+1 from by omega]at this
theorem QNa.back(h:QNa w r L i (d+1) syn dp gr dv):QNa (w.setCell ⟨r,3,none⟩ (.int .i64 (d:Int))) r L i d syn dp gr dv∧Qaa (fun b=>b=r) w (w.setCell ⟨r,3,none⟩ (.int .i64 (d:Int))):=
 h.put 3 (.int .i64 (d:Int)) (i':=i) (d':=d) h.cells.2.2.2.2.2.2.2.2.2.2.2.2.2.1 (by have:=h.cells.2.2.2.2.2.2.2.2.2.2.2.2.2.2.2;omega) (fun _ _=>rfl)
end
def QRd(r:Nat)(L:List (Int × ByteArray × Int))(d:Nat)(w:World)(e:Ending)(w':World):Prop:=
 ∃(v:Int) (i:Nat) (dp gr dv:Bool),e = .returned (.int .u32 v)∧0≤v∧v≤4294967295∧QNa w' r L i d true dp gr dv∧Qaa (fun b=>b=r) w w'
def Q0b(r:Nat)(L:List (Int × ByteArray × Int))(W:Wh)(d i:Nat)(dp gr dv:Bool)(w:World)(e:Ending)(w':World):Prop:=
 (∃(v:Int) (j:Nat) (p g q:Bool),Rd L W d i (some (v,j,p,g,q))∧e = .returned (.int .u32 v)∧0≤v∧v≤4294967295∧i<j∧j≤L.length∧QNa w' r L j d false (dp || p) (gr || g) (dv || q)∧Qaa (fun b=>b=r) w w')∨
 (Rd L W d i none∧QRd r L d w e w')
theorem Q0a{r:Nat}{w w':World}(k:Qaa (fun _=>False) w w'):Qaa (fun b=>b=r) w w':=k.mono (fun _ _ e=>e.elim)
set_option maxRecDepth 100000 in
theorem Qzj(r:Nat)(L:List (Int × ByteArray × Int))(d i:Nat)(gr dv:Bool)(w:World)(h:QNa w r L i d false true gr dv)(hs:¬Qya L i=⟨#[40]⟩)(Hh:i<L.length)(hk:L[i].1=2) :
 Calls Tryz.prog 155 #[.pointer (some ⟨r,0,none⟩)] w (Q0b r L .prim d i true gr dv w):=by
 have Hk:=Qpb r L i d false true gr dv w h
 unfold Qjb at Hk
 simp only[Bool.false_eq_true,if_false]at Hk
 have jk:((Qya L i).toList == [40])=false:=by
  rw[beq_eq_false_iff_ne];intro e;exact hs (Qic e)
 have HS:=hid hs
 generalize Qya L i=t at Hk jk
 clear hs
 go_enter Tryz.func155,Tryz.ntmps155
 go_wp2_with fail
 refine Hk.mono ?_
 rintro e w1 ⟨rfl,gi,Ht⟩
 obtain⟨c2,c3,c4,c5,c6,_,f2,f3,f4,f5,f6,_,rl,Hf,Ho,gm⟩:=gi.cells
 have GH:=hid gi
 obtain⟨lv,g,bs,hH,⟨a,cap,rfl,gn,mP⟩,_⟩:=gi
 have c0:=hH.cell 0
 have gA:=hid mP
 clear hH mP gn
 have Mv:(i:Int)<(L.length:Int):=by omega
 have Kn:¬((L.length:Int)≤(i:Int)):=by omega
 obtain⟨gt,ot,rfl,_,hc⟩:=gA.out (by omega)
 obtain⟨d0,d1,d2⟩:=hc i Hh
 have Gg:L[i]? = some L[i]:=List.getElem?_eq_getElem Hh
 have jX:=hid Gg
 clear hc Gg d1
 have gM:=Q9i (d:=d) HS.out jX.out hk
 rw[hk]at d0
 have ki:=hid gM
 clear gM hk
 generalize L[i].2.2=x at *
 have Hg:∀(wx:World) (gr':Bool),gr'=(gr || (decide (x<0) || decide (4294967295<x)))→Qaa (fun _=>False) w1 wx→
  Q0b r L .prim d i true gr dv w (.returned (.int .u32 (x % 4294967296))) (((wx.setCell ⟨r,2,none⟩ (.int .i64 ((i:Int)+1))).setCell ⟨r,5,none⟩ (.bool true)).setCell ⟨r,6,none⟩ (.bool gr')):=by
  intro wx gr' e2 JF
  obtain⟨q1,m1⟩:=(GH.out.keeps JF).on (by omega)
  obtain⟨q2,m2⟩:=q1.put 5 (.bool true) (i':=i+1) (d':=d) (syn':=false) (dp':=true) (gr':=gr) (dv':=dv) (by omega) (by omega) (fun _ _=>rfl)
  obtain⟨q3,m3⟩:=q2.put 6 (.bool gr') (i':=i+1) (d':=d) (syn':=false) (dp':=true) (gr':=gr') (dv':=dv) (by omega) (by omega) (fun _ _=>rfl)
  refine .inl ⟨_,_,_,_,_,ki.out,rfl,by omega,by omega,by omega,by omega,?_,(((((Q0a Ht).trans (Q0a JF) (fun _ _ e=>e)).trans m1 (fun _ _ e=>e)).trans m2 (fun _ _ e=>e)).trans m3 (fun _ _ e=>e))⟩
  rw[←e2,Bool.or_false,show(true || decide (8<d))=true from by rfl];exact q3
 have GJ:=hid Hg
 clear Hg
 cases gr with
 | true=>
  go_wp2_with fail
  go_quiet (fail)
  go_wp2_with fail
  go_quiet (fail)
  go_wp2_with fail
  go_ret
  exact GJ.out _ true (by simp) (Qda _ _)
 | false=>
  by_cases hx:x<0
  ·go_wp2_with fail
   go_quiet (fail)
   go_wp2_with fail
   go_quiet (fail)
   go_wp2_with fail
   go_ret
   exact GJ.out _ true (by simp[hx]) (Qda _ _)
  ·by_cases hy:(4294967295:Int)<x
   ·go_wp2_with fail
    go_quiet (fail)
    go_wp2_with fail
    go_quiet (fail)
    go_wp2_with fail
    go_ret
    exact GJ.out _ true (by simp[hy]) (Qda _ _)
   ·go_wp2_with fail
    go_quiet (fail)
    go_wp2_with fail
    go_quiet (fail)
    go_wp2_with fail
    go_ret
    have hq:=fun n=>GJ.out (w1.drewN n) (decide (x<0) || decide (4294967295<x)) (by simp) (Qda _ _)
    rw[show x % 4294967296=x from by omega]at hq
    exact hq _
set_option maxRecDepth 100000 in
theorem QAj(r:Nat)(L:List (Int × ByteArray × Int))(d i:Nat)(gr dv:Bool)(w:World)(h8:8<d)(h:QNa w r L i d false false gr dv)(hs:¬Qya L i=⟨#[40]⟩)(Hh:i<L.length)(hk:L[i].1=2) :
 Calls Tryz.prog 155 #[.pointer (some ⟨r,0,none⟩)] w (Q0b r L .prim d i false gr dv w):=by
 have Hk:=Qpb r L i d false false gr dv w h
 unfold Qjb at Hk
 simp only[Bool.false_eq_true,if_false]at Hk
 have jk:((Qya L i).toList == [40])=false:=by
  rw[beq_eq_false_iff_ne];intro e;exact hs (Qic e)
 have HS:=hid hs
 generalize Qya L i=t at Hk jk
 clear hs
 have xm:(8:Int)<(d:Int):=by omega
 go_enter Tryz.func155,Tryz.ntmps155
 go_wp2_with fail
 refine Hk.mono ?_
 rintro e w1 ⟨rfl,gi,Ht⟩
 obtain⟨c2,c3,c4,c5,c6,_,f2,f3,f4,f5,f6,_,rl,Hf,Ho,gm⟩:=gi.cells
 have GH:=hid gi
 obtain⟨lv,g,bs,hH,⟨a,cap,rfl,gn,mP⟩,_⟩:=gi
 have c0:=hH.cell 0
 have gA:=hid mP
 clear hH mP gn
 have Mv:(i:Int)<(L.length:Int):=by omega
 have Kn:¬((L.length:Int)≤(i:Int)):=by omega
 obtain⟨gt,ot,rfl,_,hc⟩:=gA.out (by omega)
 obtain⟨d0,d1,d2⟩:=hc i Hh
 have Gg:L[i]? = some L[i]:=List.getElem?_eq_getElem Hh
 have jX:=hid Gg
 clear hc Gg d1
 have gM:=Q9i (d:=d) HS.out jX.out hk
 rw[hk]at d0
 have ki:=hid gM
 clear gM hk
 generalize L[i].2.2=x at *
 have Hg:∀(wx:World) (gr':Bool),gr'=(gr || (decide (x<0) || decide (4294967295<x)))→Qaa (fun _=>False) w1 wx→
  Q0b r L .prim d i false gr dv w (.returned (.int .u32 (x % 4294967296))) (((wx.setCell ⟨r,2,none⟩ (.int .i64 ((i:Int)+1))).setCell ⟨r,5,none⟩ (.bool true)).setCell ⟨r,6,none⟩ (.bool gr')):=by
  intro wx gr' e2 JF
  obtain⟨q1,m1⟩:=(GH.out.keeps JF).on (by omega)
  obtain⟨q2,m2⟩:=q1.put 5 (.bool true) (i':=i+1) (d':=d) (syn':=false) (dp':=true) (gr':=gr) (dv':=dv) (by omega) (by omega) (fun _ _=>rfl)
  obtain⟨q3,m3⟩:=q2.put 6 (.bool gr') (i':=i+1) (d':=d) (syn':=false) (dp':=true) (gr':=gr') (dv':=dv) (by omega) (by omega) (fun _ _=>rfl)
  refine .inl ⟨_,_,_,_,_,ki.out,rfl,by omega,by omega,by omega,by omega,?_,(((((Q0a Ht).trans (Q0a JF) (fun _ _ e=>e)).trans m1 (fun _ _ e=>e)).trans m2 (fun _ _ e=>e)).trans m3 (fun _ _ e=>e))⟩
  rw[←e2,Bool.or_false,show(false || decide (8<d))=true from by simp[h8]];exact q3
 have GJ:=hid Hg
 clear Hg
 cases gr with
 | true=>
  go_wp2_with fail
  go_quiet (fail)
  go_wp2_with fail
  go_quiet (fail)
  go_wp2_with fail
  go_ret
  exact GJ.out _ true (by simp) (Qda _ _)
 | false=>
  by_cases hx:x<0
  ·go_wp2_with fail
   go_quiet (fail)
   go_wp2_with fail
   go_quiet (fail)
   go_wp2_with fail
   go_ret
   exact GJ.out _ true (by simp[hx]) (Qda _ _)
  ·by_cases hy:(4294967295:Int)<x
   ·go_wp2_with fail
    go_quiet (fail)
    go_wp2_with fail
    go_quiet (fail)
    go_wp2_with fail
    go_ret
    exact GJ.out _ true (by simp[hy]) (Qda _ _)
   ·go_wp2_with fail
    go_quiet (fail)
    go_wp2_with fail
    go_quiet (fail)
    go_wp2_with fail
    go_ret
    have hq:=fun n=>GJ.out (w1.drewN n) (decide (x<0) || decide (4294967295<x)) (by simp) (Qda _ _)
    rw[show x % 4294967296=x from by omega]at hq
    exact hq _
set_option maxRecDepth 100000 in
theorem QBj(r:Nat)(L:List (Int × ByteArray × Int))(d i:Nat)(gr dv:Bool)(w:World)(h8:¬8<d)(h:QNa w r L i d false false gr dv)(hs:¬Qya L i=⟨#[40]⟩)(Hh:i<L.length)(hk:L[i].1=2) :
 Calls Tryz.prog 155 #[.pointer (some ⟨r,0,none⟩)] w (Q0b r L .prim d i false gr dv w):=by
 have Hk:=Qpb r L i d false false gr dv w h
 unfold Qjb at Hk
 simp only[Bool.false_eq_true,if_false]at Hk
 have jk:((Qya L i).toList == [40])=false:=by
  rw[beq_eq_false_iff_ne];intro e;exact hs (Qic e)
 have HS:=hid hs
 generalize Qya L i=t at Hk jk
 clear hs
 have xm:¬(8:Int)<(d:Int):=by omega
 go_enter Tryz.func155,Tryz.ntmps155
 go_wp2_with fail
 refine Hk.mono ?_
 rintro e w1 ⟨rfl,gi,Ht⟩
 obtain⟨c2,c3,c4,c5,c6,_,f2,f3,f4,f5,f6,_,rl,Hf,Ho,gm⟩:=gi.cells
 have GH:=hid gi
 obtain⟨lv,g,bs,hH,⟨a,cap,rfl,gn,mP⟩,_⟩:=gi
 have c0:=hH.cell 0
 have gA:=hid mP
 clear hH mP gn
 have Mv:(i:Int)<(L.length:Int):=by omega
 have Kn:¬((L.length:Int)≤(i:Int)):=by omega
 obtain⟨gt,ot,rfl,_,hc⟩:=gA.out (by omega)
 obtain⟨d0,d1,d2⟩:=hc i Hh
 have Gg:L[i]? = some L[i]:=List.getElem?_eq_getElem Hh
 have jX:=hid Gg
 clear hc Gg d1
 have gM:=Q9i (d:=d) HS.out jX.out hk
 rw[hk]at d0
 have ki:=hid gM
 clear gM hk
 generalize L[i].2.2=x at *
 have Hg:∀(wx:World) (gr':Bool),gr'=(gr || (decide (x<0) || decide (4294967295<x)))→Qaa (fun _=>False) w1 wx→
  Q0b r L .prim d i false gr dv w (.returned (.int .u32 (x % 4294967296))) (((wx.setCell ⟨r,2,none⟩ (.int .i64 ((i:Int)+1))).setCell ⟨r,5,none⟩ (.bool (decide ((8:Int)<(d:Int))))).setCell ⟨r,6,none⟩ (.bool gr')):=by
  intro wx gr' e2 JF
  obtain⟨q1,m1⟩:=(GH.out.keeps JF).on (by omega)
  obtain⟨q2,m2⟩:=q1.put 5 (.bool (decide ((8:Int)<(d:Int)))) (i':=i+1) (d':=d) (syn':=false) (dp':=(decide ((8:Int)<(d:Int)))) (gr':=gr) (dv':=dv) (by omega) (by omega) (fun _ _=>rfl)
  obtain⟨q3,m3⟩:=q2.put 6 (.bool gr') (i':=i+1) (d':=d) (syn':=false) (dp':=(decide ((8:Int)<(d:Int)))) (gr':=gr') (dv':=dv) (by omega) (by omega) (fun _ _=>rfl)
  refine .inl ⟨_,_,_,_,_,ki.out,rfl,by omega,by omega,by omega,by omega,?_,(((((Q0a Ht).trans (Q0a JF) (fun _ _ e=>e)).trans m1 (fun _ _ e=>e)).trans m2 (fun _ _ e=>e)).trans m3 (fun _ _ e=>e))⟩
  rw[←e2,Bool.or_false,show(false || decide (8<d))=(decide ((8:Int)<(d:Int)))from by(rw[Bool.false_or];exact decide_eq_decide.2 (by omega))];exact q3
 have GJ:=hid Hg
 clear Hg
 cases gr with
 | true=>
  go_wp2_with fail
  go_quiet (fail)
  go_wp2_with fail
  go_quiet (fail)
  go_wp2_with fail
  go_ret
  exact GJ.out _ true (by simp) (Qda _ _)
 | false=>
  by_cases hx:x<0
  ·go_wp2_with fail
   go_quiet (fail)
   go_wp2_with fail
   go_quiet (fail)
   go_wp2_with fail
   go_ret
   exact GJ.out _ true (by simp[hx]) (Qda _ _)
  ·by_cases hy:(4294967295:Int)<x
   ·go_wp2_with fail
    go_quiet (fail)
    go_wp2_with fail
    go_quiet (fail)
    go_wp2_with fail
    go_ret
    exact GJ.out _ true (by simp[hy]) (Qda _ _)
   ·go_wp2_with fail
    go_quiet (fail)
    go_wp2_with fail
    go_quiet (fail)
    go_wp2_with fail
    go_ret
    have hq:=fun n=>GJ.out (w1.drewN n) (decide (x<0) || decide (4294967295<x)) (by simp) (Qda _ _)
    rw[show x % 4294967296=x from by omega]at hq
    exact hq _
set_option maxRecDepth 100000 in
theorem QAe(r:Nat)(L:List (Int × ByteArray × Int))(d i:Nat)(dp gr dv:Bool)(w:World)(h:QNa w r L i d false dp gr dv)
 (hW:i+1≤L.length→∀(dp gr dv:Bool) (w:World),QNa w r L (i+1) (d+1) false dp gr dv→Calls Tryz.prog 161 #[.pointer (some ⟨r,0,none⟩)] w (Q0b r L .whole (d+1) (i+1) dp gr dv w)) :
 Calls Tryz.prog 155 #[.pointer (some ⟨r,0,none⟩)] w (Q0b r L .prim d i dp gr dv w):=by
 have Hk:=Qpb r L i d false dp gr dv w h
 unfold Qjb at Hk
 simp only[Bool.false_eq_true,if_false]at Hk
 have HW:=hid hW;clear hW
 by_cases hs:Qya L i=⟨#[40]⟩
 ·have G3:i+1≤L.length:=Qad (by rw[hs];decide)
  have HS:=hid hs
  rw[hs]at Hk
  clear hs
  go_enter Tryz.func155,Tryz.ntmps155
  go_wp2_with fail
  refine Hk.mono ?_
  rintro e w1 ⟨rfl,gi,Ht⟩
  obtain⟨c2,c3,_,_,_,_,f2,f3,_,_,_,_,rl,Hf,Ho,gm⟩:=gi.cells
  obtain⟨gT,Hp⟩:=gi.on G3
  obtain⟨m9,Hd⟩:=gT.deeper (by omega)
  go_wp2_with fail
  refine(HW.out G3 _ _ _ _ (by exact m9)).mono ?_
  have Hr:=((Q0a Ht).trans Hp (fun _ _ e=>e)).trans Hd (fun _ _ e=>e)
  clear gi gT m9 Ht Hp Hd c2 c3 f2 f3
  rintro e w2 (⟨v,j,p,g,q,gM,rfl,Kq,kG,qA,qB,MK,Hs⟩|⟨gM,v,j,p,g,q,rfl,Kq,kG,MK,Hs⟩)
  ·have Hz:=Hr.trans Hs (fun _ _ e=>e)
   obtain⟨_,c3,_,_,_,_,_,f3,_,_,_,_,rl2,_,_,Kx⟩:=MK.cells
   obtain⟨jV,Gs⟩:=MK.back
   have gE:=Hz.trans Gs (fun _ _ e=>e)
   have jQ:=Qde r L j d false _ _ _ ⟨#[41]⟩ _ jV (by decide)
   unfold Qnd at jQ
   go_wp2_with fail
   refine jQ.mono ?_
   rintro e w3 ⟨rfl,G9,dT,bo⟩
   have Jy:=hid dT
   have cg:=hid bo
   clear dT bo
   go_wp2_with fail
   go_ret
   by_cases hc:Qya L j=⟨#[41]⟩
   ·exact .inl ⟨v,j+1,p,g,q,Q0m HS.out gM hc,rfl,Kq,kG,by omega,Qad (by rw[hc];decide),Jy.out ⟨by trivial,hc⟩,gE.trans G9 (fun _ _ e=>e)⟩
   ·exact .inr ⟨Qwh HS.out gM hc,v,j,_,_,_,rfl,Kq,kG,cg.out (fun e=>hc e.2),gE.trans G9 (fun _ _ e=>e)⟩
  ·have Hz:=Hr.trans Hs (fun _ _ e=>e)
   obtain⟨_,c3,_,_,_,_,_,f3,_,_,_,_,rl2,_,_,Kx⟩:=MK.cells
   obtain⟨jV,Gs⟩:=MK.back
   have gE:=Hz.trans Gs (fun _ _ e=>e)
   have jQ:=Qde r L j d true _ _ _ ⟨#[41]⟩ _ jV (by decide)
   unfold Qnd at jQ
   go_wp2_with fail
   refine jQ.mono ?_
   rintro e w3 ⟨rfl,G9,dT,bo⟩
   have Jy:=hid dT
   have cg:=hid bo
   clear dT bo
   go_wp2_with fail
   go_ret
   exact .inr ⟨QIg HS.out gM,v,j,_,_,_,rfl,Kq,kG,cg.out (by simp),gE.trans G9 (fun _ _ e=>e)⟩
 ·by_cases Ge:∃Hh:i<L.length,L[i].1=2
  ·obtain⟨Hh,hk⟩:=Ge
   clear HW Hk
   cases dp with
   | true=>exact Qzj r L d i gr dv w h hs Hh hk
   | false=>
    by_cases h8:8<d
    ·exact QAj r L d i gr dv w h8 h hs Hh hk
    ·exact QBj r L d i gr dv w h8 h hs Hh hk
  ·have rK:=hid Ge
   clear Ge
   have jk:((Qya L i).toList == [40])=false:=by
    rw[beq_eq_false_iff_ne];intro e;exact hs (Qic e)
   have HS:=hid hs
   generalize Qya L i=t at Hk jk
   clear hs
   have dU:∀wx:World,QNa wx r L i d false dp gr dv→Qaa (fun b=>b=r) w wx→Rd L .prim d i none→
    Q0b r L .prim d i dp gr dv w (.returned (.int .u32 0)) (wx.setCell ⟨r,4,none⟩ (.bool true)):=by
    intro wx hx kx hn
    obtain⟨q1,m1⟩:=hx.put 4 (.bool true) (i':=i) (d':=d) (syn':=true) (dp':=dp) (gr':=gr) (dv':=dv) hx.cells.2.2.2.2.2.2.2.2.2.2.2.2.2.1 hx.cells.2.2.2.2.2.2.2.2.2.2.2.2.2.2.2 (fun _ _=>rfl)
    exact .inr ⟨hn,0,i,dp,gr,dv,rfl,by omega,by omega,q1,kx.trans m1 (fun _ _ e=>e)⟩
   have dI:=hid dU
   clear dU
   go_enter Tryz.func155,Tryz.ntmps155
   go_wp2_with fail
   refine Hk.mono ?_
   rintro e w1 ⟨rfl,gi,Ht⟩
   obtain⟨c2,c3,c4,c5,c6,_,f2,f3,f4,f5,f6,_,rl,Hf,Ho,gm⟩:=gi.cells
   have GH:=hid gi
   obtain⟨lv,g,bs,hH,⟨a,cap,rfl,gn,mP⟩,_⟩:=gi
   have c0:=hH.cell 0
   have gA:=hid mP
   clear hH mP gn
   by_cases Hh:i<L.length
   ·have Mv:(i:Int)<(L.length:Int):=by omega
    have Kn:¬((L.length:Int)≤(i:Int)):=by omega
    obtain⟨gt,ot,rfl,_,hc⟩:=gA.out (by omega)
    obtain⟨d0,d1,d2⟩:=hc i Hh
    have Gg:L[i]? = some L[i]:=List.getElem?_eq_getElem Hh
    have jX:=hid Gg
    clear hc Gg d1
    have hk:¬L[i].1=2:=fun e=>rK.out ⟨Hh,e⟩
    have kR:(L[i].1 != 2)=true:=by simpa using hk
    have gM:=Q5f (d:=d) HS.out (by rw[jX.out];intro t' e;injection e with e;rw[←e];exact hk)
    have ki:=hid gM
    clear gM hk
    generalize L[i].1=kd at *
    go_wp2_with fail
    go_quiet (fail)
    go_wp2_with fail
    go_ret
    exact dI.out _ (GH.out.keeps (Qda _ _)) ((Q0a Ht).trans (Q0a (Qda _ _)) (fun _ _ e=>e)) ki.out
   ·have Mv:¬(i:Int)<(L.length:Int):=by omega
    have Kn:(L.length:Int)≤(i:Int):=by omega
    have gM:=Q5f (d:=d) HS.out (by rw[List.getElem?_eq_none (by omega)];rintro t' ⟨⟩)
    have ki:=hid gM
    clear gM
    go_wp2_with fail
    go_quiet (fail)
    go_wp2_with fail
    go_ret
    exact dI.out _ (GH.out.keeps (Qda _ _)) ((Q0a Ht).trans (Q0a (Qda _ _)) (fun _ _ e=>e)) ki.out
def QMa(w:World)(p:Nat)(L:List (Int × ByteArray × Int))(i:Nat)(syn dp gr dv:Bool):Prop:=
 ∃lv,Qca w p #[lv,.int .i64 i,.bool syn,.bool dp,.bool gr,.bool dv] 179∧Qcg (fun x=>x≠p) w lv L∧i≤L.length∧L.length≤1000000000
section
variable{w w':World}{p:Nat}{L:List (Int × ByteArray × Int)}{i:Nat}{syn dp gr dv:Bool}
theorem QMa.keeps(h:QMa w p L i syn dp gr dv)(k:Qaa (fun _=>False) w w'):QMa w' p L i syn dp gr dv:=by
 obtain⟨lv,h1,h2,h4⟩:=h
 exact⟨lv,h1.keeps k (fun e=>e),h2.keeps k (fun _ _ e=>e),h4⟩
theorem QMa.put(h:QMa w p L i syn dp gr dv)(o:Nat)(x:Value){i':Nat}{syn' dp' gr' dv':Bool}(hi:i'≤L.length)
 (he:∀lv:Value,(#[lv,.int .i64 i,.bool syn,.bool dp,.bool gr,.bool dv]:Array Value).setIfInBounds o x=#[lv,.int .i64 i',.bool syn',.bool dp',.bool gr',.bool dv']) :
 QMa (w.setCell ⟨p,o,none⟩ x) p L i' syn' dp' gr' dv'∧Qaa (fun b=>b=p) w (w.setCell ⟨p,o,none⟩ x):=by
 obtain⟨lv,h1,h2,_,h7⟩:=h
 have k:=(Qaa.refl (fun b=>b=p) w).setCell (p:=⟨p,o,none⟩) (.inr rfl) x
 exact⟨⟨lv,by rw[←he];exact h1.set o x,h2.keeps k (fun _ hg e=>hg e),hi,h7⟩,k⟩
theorem QMa.next(h:QMa w p L i syn dp gr dv)(hi:i+1≤L.length):QMa (w.setCell ⟨p,1,none⟩ (.int .i64 ((i:Int)+1))) p L (i+1) syn dp gr dv∧Qaa (fun b=>b=p) w (w.setCell ⟨p,1,none⟩ (.int .i64 ((i:Int)+1))):=
 h.put 1 _ hi (fun _=>rfl)
theorem QMa.cells(h:QMa w p L i syn dp gr dv):w.cell? ⟨p,1,none⟩=some (.int .i64 i)∧w.cell? ⟨p,2,none⟩=some (.bool syn)∧w.cell? ⟨p,3,none⟩=some (.bool dp)∧w.cell? ⟨p,4,none⟩=some (.bool gr)∧w.cell? ⟨p,5,none⟩=some (.bool dv)∧
 w.frozen? ⟨p,1,none⟩=false∧w.frozen? ⟨p,2,none⟩=false∧w.frozen? ⟨p,3,none⟩=false∧w.frozen? ⟨p,4,none⟩=false∧w.frozen? ⟨p,5,none⟩=false∧p<w.heap.size∧i≤L.length∧L.length≤1000000000:=by
 obtain⟨lv,h1,_,h3,h4⟩:=h
 exact⟨h1.cell 1,h1.cell 2,h1.cell 3,h1.cell 4,h1.cell 5,h1.free 1,h1.free 2,h1.free 3,h1.free 4,h1.free 5,h1.lt,h3,h4⟩
end
def Qtc(p:Nat)(L:List (Int × ByteArray × Int))(i:Nat)(syn dp gr dv:Bool)(w:World)(e:Ending)(w':World):Prop:=
 e = .returned (.string (Qya L i))∧QMa w' p L i syn dp gr dv∧Qaa (fun _=>False) w w'
set_option maxRecDepth 100000 in
theorem QIe(p:Nat)(L:List (Int × ByteArray × Int))(i:Nat)(syn dp gr dv:Bool)(w:World)(h:QMa w p L i syn dp gr dv) :
 Calls Tryz.prog 151 #[.pointer (some ⟨p,0,none⟩)] w (Qtc p L i syn dp gr dv w):=by
 have HR:=hid h
 obtain⟨lv,hH,⟨a,cap,rfl,gn,mP⟩,ah,aS⟩:=h
 have gA:=hid mP
 clear mP gn
 have c0:=hH.cell 0
 have c2:=hH.cell 1
 have cl:=hH.lt
 by_cases Hh:i<L.length
 ·have Mv:(i:Int)<(L.length:Int):=by omega
  have Kn:¬((L.length:Int)≤(i:Int)):=by omega
  obtain⟨gt,ot,rfl,_,hc⟩:=gA.out (by omega)
  obtain⟨d0,d1,_⟩:=hc i Hh
  have hs:Qya L i=if L[i].1=4 then L[i].2.1 else⟨#[]⟩:=by unfold Qya;rw[List.getElem?_eq_getElem Hh]
  have HS:=hid hs
  clear hc hs
  generalize L[i].1=kd at *
  generalize L[i].2.1=tx at *
  by_cases hk:kd=4
  ·subst hk
   have Hg:=hid (show Qya L i=tx from by rw[HS.out];rfl)
   go_enter Tryz.func151,Tryz.ntmps151
   go_wp2_with fail
   go_quiet (fail)
   go_wp2_with fail
   go_quiet (fail)
   go_wp2_with fail
   go_ret
   exact⟨by rw[Hg.out];rfl,(HR.out.keeps (Qda _ _)).keeps (Qda _ _),(Qda _ _).drewN _⟩
  ·have kR:(kd == 4)=false:=by simpa using hk
   have Hg:=hid (show Qya L i=⟨#[]⟩from by rw[HS.out,if_neg hk])
   clear hk
   go_enter Tryz.func151,Tryz.ntmps151
   go_wp2_with fail
   go_quiet (fail)
   go_wp2_with fail
   go_ret
   exact⟨by rw[Hg.out];rfl,HR.out.keeps (Qda _ _),Qda _ _⟩
 ·have Mv:¬(i:Int)<(L.length:Int):=by omega
  have Kn:(L.length:Int)≤(i:Int):=by omega
  have Hg:=hid (show Qya L i=⟨#[]⟩from by unfold Qya;rw[List.getElem?_eq_none (by omega)])
  go_enter Tryz.func151,Tryz.ntmps151
  go_wp2_with fail
  go_quiet (fail)
  go_wp2_with fail
  go_ret
  exact⟨by rw[Hg.out];rfl,HR.out.keeps (Qda _ _),Qda _ _⟩
def QTl(p:Nat)(L:List (Int × ByteArray × Int))(i:Nat)(syn dp gr dv:Bool)(s:ByteArray)(w:World)(e:Ending)(w':World):Prop:=
 e = .returned (.tuple #[])∧Qaa (fun b=>b=p) w w'∧((Qya L i=s→QMa w' p L (i+1) syn dp gr dv)∧(Qya L i≠s→QMa w' p L i true dp gr dv))
set_option maxRecDepth 100000 in
theorem QNm(p:Nat)(L:List (Int × ByteArray × Int))(i:Nat)(syn dp gr dv:Bool)(s:ByteArray)(w:World)(h:QMa w p L i syn dp gr dv)(hs:s≠⟨#[]⟩) :
 Calls Tryz.prog 158 #[.pointer (some ⟨p,0,none⟩),.string s] w (QTl p L i syn dp gr dv s w):=by
 have Hk:=QIe p L i syn dp gr dv w h
 unfold Qtc at Hk
 have oK:i≤1000000000:=by obtain⟨_,_,_,h1,h2⟩:=h;omega
 by_cases hy:Qya L i=s
 ·have hn:i+1≤L.length:=Qad (by rw[hy];exact hs)
  have kA:=hid (hy ▸ Hk)
  have HY:=hid hy
  clear Hk hy
  go_enter Tryz.func158,Tryz.ntmps158
  go_wp2_with fail
  refine(by exact kA.out:Calls _ _ _ _ _).mono ?_
  rintro e w1 ⟨rfl,gi,Ht⟩
  have GH:=hid gi
  obtain⟨c1,_,_,_,_,f1,_,_,_,_,cl,_,_⟩:=gi.cells
  clear gi
  go_wp2_with fail
  go_end0
  obtain⟨h2,h3⟩:=GH.out.next hn
  exact⟨rfl,(Ht.mono (fun _ _ e=>e.elim)).trans h3 (fun _ _ e=>e),fun _=>h2,fun e=>absurd HY.out e⟩
 ·have jk:=Qkk hy
  have HY:=hid hy
  have kA:=hid Hk
  clear hy Hk
  obtain⟨t,ht⟩:∃t,t=Qya L i:=⟨_,rfl⟩
  rw[←ht]at kA jk
  have HT:=hid ht
  clear ht
  go_enter Tryz.func158,Tryz.ntmps158
  go_wp2_with fail
  refine(by exact kA.out:Calls _ _ _ _ _).mono ?_
  rintro e w1 ⟨rfl,gi,Ht⟩
  have GH:=hid gi
  obtain⟨_,c2,_,_,_,_,f2,_,_,_,cl,ah,_⟩:=gi.cells
  clear gi
  go_wp2_with fail
  refine bodyPost_ret (results_none rfl _ _ _) rfl ?_
  obtain⟨h2,h3⟩:=GH.out.put 2 (.bool true) (i':=i) (syn':=true) (dp':=dp) (gr':=gr) (dv':=dv) ah (fun _=>rfl)
  exact⟨rfl,(Ht.mono (fun _ _ e=>e.elim)).trans h3 (fun _ _ e=>e),fun e=>absurd e HY.out,fun _=>h2⟩
theorem Qdc(b:Bool)(w:World):Calls Tryz.prog 156 #[.bool b] w fun e w'=>e = .returned (.int .u32 (QQc b))∧w=w':=by
 go_enter Tryz.func156,Tryz.ntmps156
 cases b
 all_goals
  go_wp2_with fail
  go_ret
  exact⟨rfl,rfl⟩
def Qcb(p:Nat)(L:List (Int × ByteArray × Int))(i:Nat)(syn dp gr dv:Bool)(f:Nat)(a b:Int)(w:World)(e:Ending)(w':World):Prop:=
 e = .returned (.int .u32 (if Qib f b=true then 0 else Q4b f a b))∧QMa w' p L i syn dp gr (dv || Qib f b)∧Qaa (fun x=>x=p) w w'
theorem QTp(p:Nat)(L:List (Int × ByteArray × Int))(i:Nat)(syn dp gr dv:Bool)(a b:Int)(w:World)(h:QMa w p L i syn dp gr dv)(ha:0≤a)(Hw:a≤4294967295)(hb:0≤b)(Hf:b≤4294967295) :
 Calls Tryz.prog 185 #[.pointer (some ⟨p,0,none⟩),.string ⟨#[42]⟩,.int .u32 a,.int .u32 b] w (Qcb p L i syn dp gr dv 1 a b w):=by
 have g8:=hid (show Qib 1 b=false from by unfold Qib;simp)
 have HR:=hid h
 clear h
 go_enter Tryz.func185,Tryz.ntmps185
 go_wp2_with fail
 go_ret
 exact⟨by rw[g8.out];rfl,by rw[g8.out,Bool.or_false];exact HR.out,Qaa.refl _ _⟩
theorem QUp(p:Nat)(L:List (Int × ByteArray × Int))(i:Nat)(syn dp gr dv:Bool)(a b:Int)(w:World)(h:QMa w p L i syn dp gr dv)(ha:0≤a)(Hw:a≤4294967295)(hb:0≤b)(Hf:b≤4294967295) :
 Calls Tryz.prog 185 #[.pointer (some ⟨p,0,none⟩),.string ⟨#[47]⟩,.int .u32 a,.int .u32 b] w (Qcb p L i syn dp gr dv 2 a b w):=by
 by_cases h0:b=0
 ·subst h0
  have HR:=hid h
  obtain⟨_,_,_,_,c5,_,_,_,_,f5,cl,ah,_⟩:=h.cells
  clear h
  go_enter Tryz.func185,Tryz.ntmps185
  go_wp2_with fail
  go_ret
  obtain⟨h2,h3⟩:=HR.out.put 5 (.bool true) (i':=i) (syn':=syn) (dp':=dp) (gr':=gr) (dv':=true) ah (fun _=>rfl)
  exact⟨rfl,by rw[show(dv || Qib 2 0)=true from by cases dv <;> rfl];exact h2,h3⟩
 ·have h0':(b == 0)=false:=by rw[beq_eq_false_iff_ne];exact h0
  have g8:Qib 2 b=false:=by unfold Qib;rw[h0'];rfl
  have HR:=hid h
  have HD:=hid g8
  have hb':1≤b:=by omega
  clear h g8
  go_enter Tryz.func185,Tryz.ntmps185
  go_wp2_with fail
  go_ret
  exact⟨by rw[HD.out];rfl,by rw[HD.out,Bool.or_false];exact HR.out,Qaa.refl _ _⟩
theorem QVp(p:Nat)(L:List (Int × ByteArray × Int))(i:Nat)(syn dp gr dv:Bool)(a b:Int)(w:World)(h:QMa w p L i syn dp gr dv)(ha:0≤a)(Hw:a≤4294967295)(hb:0≤b)(Hf:b≤4294967295) :
 Calls Tryz.prog 185 #[.pointer (some ⟨p,0,none⟩),.string ⟨#[37]⟩,.int .u32 a,.int .u32 b] w (Qcb p L i syn dp gr dv 3 a b w):=by
 by_cases h0:b=0
 ·subst h0
  have HR:=hid h
  obtain⟨_,_,_,_,c5,_,_,_,_,f5,cl,ah,_⟩:=h.cells
  clear h
  go_enter Tryz.func185,Tryz.ntmps185
  go_wp2_with fail
  go_ret
  obtain⟨h2,h3⟩:=HR.out.put 5 (.bool true) (i':=i) (syn':=syn) (dp':=dp) (gr':=gr) (dv':=true) ah (fun _=>rfl)
  exact⟨rfl,by rw[show(dv || Qib 3 0)=true from by cases dv <;> rfl];exact h2,h3⟩
 ·have h0':(b == 0)=false:=by rw[beq_eq_false_iff_ne];exact h0
  have g8:Qib 3 b=false:=by unfold Qib;rw[h0'];rfl
  have HR:=hid h
  have HD:=hid g8
  have hb':1≤b:=by omega
  clear h g8
  go_enter Tryz.func185,Tryz.ntmps185
  go_wp2_with fail
  go_ret
  exact⟨by rw[HD.out];rfl,by rw[HD.out,Bool.or_false];exact HR.out,Qaa.refl _ _⟩
theorem QWp(p:Nat)(L:List (Int × ByteArray × Int))(i:Nat)(syn dp gr dv:Bool)(a b:Int)(w:World)(h:QMa w p L i syn dp gr dv)(ha:0≤a)(Hw:a≤4294967295)(hb:0≤b)(Hf:b≤4294967295) :
 Calls Tryz.prog 185 #[.pointer (some ⟨p,0,none⟩),.string ⟨#[43]⟩,.int .u32 a,.int .u32 b] w (Qcb p L i syn dp gr dv 4 a b w):=by
 have g8:=hid (show Qib 4 b=false from by unfold Qib;simp)
 have HR:=hid h
 clear h
 go_enter Tryz.func185,Tryz.ntmps185
 go_wp2_with fail
 go_ret
 exact⟨by rw[g8.out];rfl,by rw[g8.out,Bool.or_false];exact HR.out,Qaa.refl _ _⟩
theorem QXp(p:Nat)(L:List (Int × ByteArray × Int))(i:Nat)(syn dp gr dv:Bool)(a b:Int)(w:World)(h:QMa w p L i syn dp gr dv)(ha:0≤a)(Hw:a≤4294967295)(hb:0≤b)(Hf:b≤4294967295) :
 Calls Tryz.prog 185 #[.pointer (some ⟨p,0,none⟩),.string ⟨#[45]⟩,.int .u32 a,.int .u32 b] w (Qcb p L i syn dp gr dv 5 a b w):=by
 have g8:=hid (show Qib 5 b=false from by unfold Qib;simp)
 have HR:=hid h
 clear h
 go_enter Tryz.func185,Tryz.ntmps185
 go_wp2_with fail
 go_ret
 exact⟨by rw[g8.out];rfl,by rw[g8.out,Bool.or_false];exact HR.out,Qaa.refl _ _⟩
theorem QYp(p:Nat)(L:List (Int × ByteArray × Int))(i:Nat)(syn dp gr dv:Bool)(a b:Int)(w:World)(h:QMa w p L i syn dp gr dv)(ha:0≤a)(Hw:a≤4294967295)(hb:0≤b)(Hf:b≤4294967295) :
 Calls Tryz.prog 185 #[.pointer (some ⟨p,0,none⟩),.string ⟨#[60,60]⟩,.int .u32 a,.int .u32 b] w (Qcb p L i syn dp gr dv 6 a b w):=by
 have g8:=hid (show Qib 6 b=false from by unfold Qib;simp)
 have HR:=hid h
 clear h
 by_cases h32:32≤b
 ·have hz:Q4b 6 a b=0:=by
   have e:min b.toNat 32=32:=by omega
   show a*2 ^ min b.toNat 32 % 4294967296=0
   rw[e]
   exact Int.mul_emod_left a 4294967296
  have HZ:=hid hz
  clear hz
  go_enter Tryz.func185,Tryz.ntmps185
  go_wp2_with fail
  go_ret
  exact⟨by rw[g8.out,HZ.out];rfl,by rw[g8.out,Bool.or_false];exact HR.out,Qaa.refl _ _⟩
 ·have hm:=hid (show Q4b 6 a b=a*2 ^ b.toNat % 4294967296 from by
   show a*2 ^ min b.toNat 32 % 4294967296=_
   rw[show min b.toNat 32=b.toNat from by omega])
  go_enter Tryz.func185,Tryz.ntmps185
  go_wp2_with fail
  go_ret
  exact⟨by rw[g8.out,if_neg (by simp),hm.out];rfl,by rw[g8.out,Bool.or_false];exact HR.out,Qaa.refl _ _⟩
theorem QZp(p:Nat)(L:List (Int × ByteArray × Int))(i:Nat)(syn dp gr dv:Bool)(a b:Int)(w:World)(h:QMa w p L i syn dp gr dv)(ha:0≤a)(Hw:a≤4294967295)(hb:0≤b)(Hf:b≤4294967295) :
 Calls Tryz.prog 185 #[.pointer (some ⟨p,0,none⟩),.string ⟨#[62,62]⟩,.int .u32 a,.int .u32 b] w (Qcb p L i syn dp gr dv 7 a b w):=by
 have g8:=hid (show Qib 7 b=false from by unfold Qib;simp)
 have HR:=hid h
 clear h
 by_cases h32:32≤b
 ·have hz:Q4b 7 a b=0:=by
   have e:min b.toNat 32=32:=by omega
   show a / 2 ^ min b.toNat 32=0
   rw[e]
   exact Int.ediv_eq_zero_of_lt ha (by show a<4294967296;omega)
  have HZ:=hid hz
  clear hz
  go_enter Tryz.func185,Tryz.ntmps185
  go_wp2_with fail
  go_ret
  exact⟨by rw[g8.out,HZ.out];rfl,by rw[g8.out,Bool.or_false];exact HR.out,Qaa.refl _ _⟩
 ·have hm:=hid (show Q4b 7 a b=a / 2 ^ b.toNat from by
   show a / 2 ^ min b.toNat 32=_
   rw[show min b.toNat 32=b.toNat from by omega])
  go_enter Tryz.func185,Tryz.ntmps185
  go_wp2_with fail
  go_ret
  exact⟨by rw[g8.out,if_neg (by simp),hm.out];rfl,by rw[g8.out,Bool.or_false];exact HR.out,Qaa.refl _ _⟩
theorem Q0p(p:Nat)(L:List (Int × ByteArray × Int))(i:Nat)(syn dp gr dv:Bool)(a b:Int)(w:World)(h:QMa w p L i syn dp gr dv)(ha:0≤a)(Hw:a≤4294967295)(hb:0≤b)(Hf:b≤4294967295) :
 Calls Tryz.prog 185 #[.pointer (some ⟨p,0,none⟩),.string ⟨#[60]⟩,.int .u32 a,.int .u32 b] w (Qcb p L i syn dp gr dv 8 a b w):=by
 have g8:=hid (show Qib 8 b=false from by unfold Qib;simp)
 have HR:=hid h
 clear h
 go_enter Tryz.func185,Tryz.ntmps185
 go_wp2_with fail
 all_goals
  refine(Qdc _ _).mono ?_
  rintro e w1 ⟨rfl,rfl⟩
  go_wp2_with fail
  go_ret
  exact⟨by rw[g8.out];rfl,by rw[g8.out,Bool.or_false];exact HR.out,Qaa.refl _ _⟩
theorem Q1p(p:Nat)(L:List (Int × ByteArray × Int))(i:Nat)(syn dp gr dv:Bool)(a b:Int)(w:World)(h:QMa w p L i syn dp gr dv)(ha:0≤a)(Hw:a≤4294967295)(hb:0≤b)(Hf:b≤4294967295) :
 Calls Tryz.prog 185 #[.pointer (some ⟨p,0,none⟩),.string ⟨#[62]⟩,.int .u32 a,.int .u32 b] w (Qcb p L i syn dp gr dv 9 a b w):=by
 have g8:=hid (show Qib 9 b=false from by unfold Qib;simp)
 have HR:=hid h
 clear h
 go_enter Tryz.func185,Tryz.ntmps185
 go_wp2_with fail
 all_goals
  refine(Qdc _ _).mono ?_
  rintro e w1 ⟨rfl,rfl⟩
  go_wp2_with fail
  go_ret
  exact⟨by rw[g8.out];rfl,by rw[g8.out,Bool.or_false];exact HR.out,Qaa.refl _ _⟩
theorem Qfo(p:Nat)(L:List (Int × ByteArray × Int))(i:Nat)(syn dp gr dv:Bool)(a b:Int)(w:World)(h:QMa w p L i syn dp gr dv)(ha:0≤a)(Hw:a≤4294967295)(hb:0≤b)(Hf:b≤4294967295) :
 Calls Tryz.prog 185 #[.pointer (some ⟨p,0,none⟩),.string ⟨#[60,61]⟩,.int .u32 a,.int .u32 b] w (Qcb p L i syn dp gr dv 10 a b w):=by
 have g8:=hid (show Qib 10 b=false from by unfold Qib;simp)
 have HR:=hid h
 clear h
 go_enter Tryz.func185,Tryz.ntmps185
 go_wp2_with fail
 all_goals
  refine(Qdc _ _).mono ?_
  rintro e w1 ⟨rfl,rfl⟩
  go_wp2_with fail
  go_ret
  exact⟨by rw[g8.out];rfl,by rw[g8.out,Bool.or_false];exact HR.out,Qaa.refl _ _⟩
theorem Qgo(p:Nat)(L:List (Int × ByteArray × Int))(i:Nat)(syn dp gr dv:Bool)(a b:Int)(w:World)(h:QMa w p L i syn dp gr dv)(ha:0≤a)(Hw:a≤4294967295)(hb:0≤b)(Hf:b≤4294967295) :
 Calls Tryz.prog 185 #[.pointer (some ⟨p,0,none⟩),.string ⟨#[62,61]⟩,.int .u32 a,.int .u32 b] w (Qcb p L i syn dp gr dv 11 a b w):=by
 have g8:=hid (show Qib 11 b=false from by unfold Qib;simp)
 have HR:=hid h
 clear h
 go_enter Tryz.func185,Tryz.ntmps185
 go_wp2_with fail
 all_goals
  refine(Qdc _ _).mono ?_
  rintro e w1 ⟨rfl,rfl⟩
  go_wp2_with fail
  go_ret
  exact⟨by rw[g8.out];rfl,by rw[g8.out,Bool.or_false];exact HR.out,Qaa.refl _ _⟩
theorem Qho(p:Nat)(L:List (Int × ByteArray × Int))(i:Nat)(syn dp gr dv:Bool)(a b:Int)(w:World)(h:QMa w p L i syn dp gr dv)(ha:0≤a)(Hw:a≤4294967295)(hb:0≤b)(Hf:b≤4294967295) :
 Calls Tryz.prog 185 #[.pointer (some ⟨p,0,none⟩),.string ⟨#[61,61]⟩,.int .u32 a,.int .u32 b] w (Qcb p L i syn dp gr dv 12 a b w):=by
 have g8:=hid (show Qib 12 b=false from by unfold Qib;simp)
 have HR:=hid h
 clear h
 go_enter Tryz.func185,Tryz.ntmps185
 go_wp2_with fail
 all_goals
  refine(Qdc _ _).mono ?_
  rintro e w1 ⟨rfl,rfl⟩
  go_wp2_with fail
  go_ret
  exact⟨by rw[g8.out];rfl,by rw[g8.out,Bool.or_false];exact HR.out,Qaa.refl _ _⟩
theorem Qio(p:Nat)(L:List (Int × ByteArray × Int))(i:Nat)(syn dp gr dv:Bool)(a b:Int)(w:World)(h:QMa w p L i syn dp gr dv)(ha:0≤a)(Hw:a≤4294967295)(hb:0≤b)(Hf:b≤4294967295) :
 Calls Tryz.prog 185 #[.pointer (some ⟨p,0,none⟩),.string ⟨#[33,61]⟩,.int .u32 a,.int .u32 b] w (Qcb p L i syn dp gr dv 13 a b w):=by
 have g8:=hid (show Qib 13 b=false from by unfold Qib;simp)
 have HR:=hid h
 clear h
 go_enter Tryz.func185,Tryz.ntmps185
 go_wp2_with fail
 all_goals
  refine(Qdc _ _).mono ?_
  rintro e w1 ⟨rfl,rfl⟩
  go_wp2_with fail
  go_ret
  exact⟨by rw[g8.out];rfl,by rw[g8.out,Bool.or_false];exact HR.out,Qaa.refl _ _⟩
theorem Qjo(p:Nat)(L:List (Int × ByteArray × Int))(i:Nat)(syn dp gr dv:Bool)(a b:Int)(w:World)(h:QMa w p L i syn dp gr dv)(ha:0≤a)(Hw:a≤4294967295)(hb:0≤b)(Hf:b≤4294967295) :
 Calls Tryz.prog 185 #[.pointer (some ⟨p,0,none⟩),.string ⟨#[38]⟩,.int .u32 a,.int .u32 b] w (Qcb p L i syn dp gr dv 14 a b w):=by
 have g8:=hid (show Qib 14 b=false from by unfold Qib;simp)
 have HR:=hid h
 clear h
 go_enter Tryz.func185,Tryz.ntmps185
 go_wp2_with fail
 go_ret
 exact⟨by rw[g8.out];rfl,by rw[g8.out,Bool.or_false];exact HR.out,Qaa.refl _ _⟩
theorem Qko(p:Nat)(L:List (Int × ByteArray × Int))(i:Nat)(syn dp gr dv:Bool)(a b:Int)(w:World)(h:QMa w p L i syn dp gr dv)(ha:0≤a)(Hw:a≤4294967295)(hb:0≤b)(Hf:b≤4294967295) :
 Calls Tryz.prog 185 #[.pointer (some ⟨p,0,none⟩),.string ⟨#[94]⟩,.int .u32 a,.int .u32 b] w (Qcb p L i syn dp gr dv 15 a b w):=by
 have g8:=hid (show Qib 15 b=false from by unfold Qib;simp)
 have HR:=hid h
 clear h
 go_enter Tryz.func185,Tryz.ntmps185
 go_wp2_with fail
 go_ret
 exact⟨by rw[g8.out];rfl,by rw[g8.out,Bool.or_false];exact HR.out,Qaa.refl _ _⟩
theorem Qlo(p:Nat)(L:List (Int × ByteArray × Int))(i:Nat)(syn dp gr dv:Bool)(a b:Int)(w:World)(h:QMa w p L i syn dp gr dv)(ha:0≤a)(Hw:a≤4294967295)(hb:0≤b)(Hf:b≤4294967295) :
 Calls Tryz.prog 185 #[.pointer (some ⟨p,0,none⟩),.string ⟨#[124]⟩,.int .u32 a,.int .u32 b] w (Qcb p L i syn dp gr dv 16 a b w):=by
 have g8:=hid (show Qib 16 b=false from by unfold Qib;simp)
 have HR:=hid h
 clear h
 go_enter Tryz.func185,Tryz.ntmps185
 go_wp2_with fail
 go_ret
 exact⟨by rw[g8.out];rfl,by rw[g8.out,Bool.or_false];exact HR.out,Qaa.refl _ _⟩
theorem Qmo(p:Nat)(L:List (Int × ByteArray × Int))(i:Nat)(syn dp gr dv:Bool)(a b:Int)(w:World)(h:QMa w p L i syn dp gr dv)(ha:0≤a)(Hw:a≤4294967295)(hb:0≤b)(Hf:b≤4294967295) :
 Calls Tryz.prog 185 #[.pointer (some ⟨p,0,none⟩),.string ⟨#[38,38]⟩,.int .u32 a,.int .u32 b] w (Qcb p L i syn dp gr dv 17 a b w):=by
 have g8:=hid (show Qib 17 b=false from by unfold Qib;simp)
 have HR:=hid h
 clear h
 by_cases h0:a=0
 ·subst h0
  have e0:=hid (show Q4b 17 0 b=QQc false from by simp[Q4b])
  go_enter Tryz.func185,Tryz.ntmps185
  go_wp2_with fail
  refine(Qdc _ _).mono ?_
  rintro e w1 ⟨rfl,rfl⟩
  go_wp2_with fail
  go_ret
  exact⟨by rw[g8.out,if_neg (by simp),e0.out];rfl,by rw[g8.out,Bool.or_false];exact HR.out,Qaa.refl _ _⟩
 ·have h1:(a != 0)=true:=by rw[bne_iff_ne];exact h0
  have e0:=hid (show Q4b 17 a b=QQc (b != 0)from by show QQc (a != 0 && b != 0)=_;rw[h1];rfl)
  go_enter Tryz.func185,Tryz.ntmps185
  go_wp2_with fail
  refine(Qdc _ _).mono ?_
  rintro e w1 ⟨rfl,rfl⟩
  go_wp2_with fail
  go_ret
  exact⟨by rw[g8.out,if_neg (by simp),e0.out];rfl,by rw[g8.out,Bool.or_false];exact HR.out,Qaa.refl _ _⟩
theorem Qno(p:Nat)(L:List (Int × ByteArray × Int))(i:Nat)(syn dp gr dv:Bool)(a b:Int)(w:World)(h:QMa w p L i syn dp gr dv)(ha:0≤a)(Hw:a≤4294967295)(hb:0≤b)(Hf:b≤4294967295) :
 Calls Tryz.prog 185 #[.pointer (some ⟨p,0,none⟩),.string ⟨#[124,124]⟩,.int .u32 a,.int .u32 b] w (Qcb p L i syn dp gr dv 18 a b w):=by
 have g8:=hid (show Qib 18 b=false from by unfold Qib;simp)
 have HR:=hid h
 clear h
 by_cases h0:a=0
 ·subst h0
  have e0:=hid (show Q4b 18 0 b=QQc (b != 0)from by simp[Q4b])
  go_enter Tryz.func185,Tryz.ntmps185
  go_wp2_with fail
  refine(Qdc _ _).mono ?_
  rintro e w1 ⟨rfl,rfl⟩
  go_wp2_with fail
  go_ret
  exact⟨by rw[g8.out,if_neg (by simp),e0.out];rfl,by rw[g8.out,Bool.or_false];exact HR.out,Qaa.refl _ _⟩
 ·have h1:(a != 0)=true:=by rw[bne_iff_ne];exact h0
  have e0:=hid (show Q4b 18 a b=QQc true from by show QQc (a != 0 || b != 0)=_;rw[h1];rfl)
  go_enter Tryz.func185,Tryz.ntmps185
  go_wp2_with fail
  refine(Qdc _ _).mono ?_
  rintro e w1 ⟨rfl,rfl⟩
  go_wp2_with fail
  go_ret
  exact⟨by rw[g8.out,if_neg (by simp),e0.out];rfl,by rw[g8.out,Bool.or_false];exact HR.out,Qaa.refl _ _⟩
end Go.Proofs.YtofhcgbihonckaaGreat
