/- The reader of package expression in memory; its sign and expect. | The reader of package expression: its fields, sign, expect. | The reader of package expression: primary. | The reader of package expression: primary at a number, 0. | The reader of package expression: primary at a number, 1. | The reader of package expression: primary at a number, 2. | The reader of package expression: primary. -/
import Derived.Test.YtgaboghigefgbaaGreatDoorZ2
import Derived.BigQuiet
set_option linter.all false
set_option maxHeartbeats 8000000
namespace Go.Proofs.YtgaboghigefgbaaGreatDoor
open Go.Lib (hid)
open Go.RowKit
section
variable{L:List (Int × ByteArray × Int)}{d i k:Nat}{v:Int}
theorem Qfm(hs:Qkb L i=⟨#[40]⟩)(h:Rd L .whole (d+1) (i+1) none):Rd L .prim d i none:=by
 obtain⟨n,h⟩:=h;exact⟨n+1,by rw[evT,if_pos hs,h];rfl⟩
theorem Qgo{q:Int × Nat × Bool × Bool × Bool}(hs:Qkb L i=⟨#[40]⟩)(h:Rd L .whole (d+1) (i+1) (some q))(h2:Qkb L q.2.1≠⟨#[41]⟩):Rd L .prim d i none:=by
 obtain⟨n,h⟩:=h;exact⟨n+1,by rw[evT,if_pos hs,h];show some (if _ then _ else _)=_;rw[if_neg h2]⟩
theorem Q9t{q:Int × Nat × Bool × Bool × Bool}(hs:Qkb L i=⟨#[40]⟩)(h:Rd L .whole (d+1) (i+1) (some q))(h2:Qkb L q.2.1=⟨#[41]⟩):Rd L .prim d i (some (q.1,q.2.1+1,q.2.2)):=by
 obtain⟨n,h⟩:=h;exact⟨n+1,by rw[evT,if_pos hs,h];show some (if _ then _ else _)=_;rw[if_pos h2]⟩
theorem Qcq{t:Int × ByteArray × Int}(hs:Qkb L i≠⟨#[40]⟩)(h:L[i]? = some t)(h2:t.1=2):Rd L .prim d i (some (t.2.2 % 4294967296,i+1,decide (8<d),decide (t.2.2<0) || decide (4294967295<t.2.2),false)):=
 ⟨1,by rw[evT,if_neg hs,h];show some (if _ then _ else _)=_;rw[if_pos h2]⟩
theorem Q4m(hs:Qkb L i≠⟨#[40]⟩)(h:∀t,L[i]? = some t→t.1≠2):Rd L .prim d i none:=
 ⟨1,by
  rw[evT,if_neg hs]
  cases e:L[i]? with
  | none=>rfl
  | some t=>show some (if _ then _ else _)=_;rw[if_neg (h t e)]⟩
theorem QFu{r:Option (Int × Nat × Bool × Bool × Bool)}(hs:unB (Qkb L i)=true)(h:Rd L .opnd d (i+1) r):Rd L .opnd d i (r.map fun q=>(unT (Qkb L i) q.1,q.2)):=by
 obtain⟨n,h⟩:=h;exact⟨n+1,by rw[evT,if_pos hs,h];rfl⟩
theorem QEu{r:Option (Int × Nat × Bool × Bool × Bool)}(hs:unB (Qkb L i)=false)(h:Rd L .prim d i r):Rd L .opnd d i r:=by
 obtain⟨n,h⟩:=h;exact⟨n+1,by rw[evT,if_neg (by rw[hs];simp),h]⟩
theorem Qbq{r:Option (Int × Nat × Bool × Bool × Bool)}(h:Rd L .opnd d i r):Rd L (.lvl 0) d i r:=by
 obtain⟨n,h⟩:=h;exact⟨n+1,by rw[evT,h]⟩
theorem Qdm(h:Rd L (.lvl k) d i none):Rd L (.lvl (k+1)) d i none:=by
 obtain⟨n,h⟩:=h;exact⟨n+1,by rw[evT,h];rfl⟩
theorem Q7t{q:Int × Nat × Bool × Bool × Bool}{r:Option (Int × Nat × Bool × Bool × Bool)}(h:Rd L (.lvl k) d i (some q))(h2:Rd L (.loop k q.1) d q.2.1 r):Rd L (.lvl (k+1)) d i (r.map fun q2=>(q2.1,q2.2.1,orF q.2.2 q2.2.2)):=by
 obtain⟨n,h⟩:=h;obtain⟨m,h2⟩:=h2
 exact⟨max n m+1,by rw[evT,Qtg L (Nat.le_max_left n m) h];show Option.map _ _=_;rw[Qtg L (Nat.le_max_right n m) h2];rfl⟩
theorem Qcm(h:QJj k (Qkb L i)=none):Rd L (.loop k v) d i (some (v,i,noF)):=⟨1,by rw[evT,h]⟩
theorem QRk{f:Nat}(hr:QJj k (Qkb L i)=some f)(h:Rd L (.lvl k) d (i+1) none):Rd L (.loop k v) d i none:=by
 obtain⟨n,h⟩:=h;exact⟨n+1,by rw[evT,hr];show Option.bind _ _=_;rw[h];rfl⟩
theorem Qet{f:Nat}{q:Int × Nat × Bool × Bool × Bool}{r:Option (Int × Nat × Bool × Bool × Bool)}(hr:QJj k (Qkb L i)=some f)(h:Rd L (.lvl k) d (i+1) (some q))
 (h2:Rd L (.loop k (Qml f v (if QCl f q.1=true then 1 else q.1))) d q.2.1 r):Rd L (.loop k v) d i (r.map fun q2=>(q2.1,q2.2.1,orF (orF q.2.2 (false,false,QCl f q.1)) q2.2.2)):=by
 obtain⟨n,h⟩:=h;obtain⟨m,h2⟩:=h2
 exact⟨max n m+1,by rw[evT,hr];show Option.bind _ _=_;rw[Qtg L (Nat.le_max_left n m) h];show Option.map _ _=_;rw[Qtg L (Nat.le_max_right n m) h2];rfl⟩
theorem QGj(h:Rd L (.lvl 10) d i none):Rd L .whole d i none:=by
 obtain⟨n,h⟩:=h;exact⟨n+1,by rw[evT,h];rfl⟩
theorem QJr{q:Int × Nat × Bool × Bool × Bool}(h:Rd L (.lvl 10) d i (some q))(hs:Qkb L q.2.1≠⟨#[63]⟩):Rd L .whole d i (some q):=by
 obtain⟨n,h⟩:=h;exact⟨n+1,by rw[evT,h];show(if _ then _ else _)=_;rw[if_neg hs]⟩
theorem Qfo{q:Int × Nat × Bool × Bool × Bool}(h:Rd L (.lvl 10) d i (some q))(hs:Qkb L q.2.1=⟨#[63]⟩)(h2:Rd L .whole d (q.2.1+1) none):Rd L .whole d i none:=by
 obtain⟨n,h⟩:=h;obtain⟨m,h2⟩:=h2
 exact⟨max n m+1,by rw[evT,Qtg L (Nat.le_max_left n m) h];show(if _ then _ else _)=_;rw[if_pos hs,Qtg L (Nat.le_max_right n m) h2];rfl⟩
theorem Qaq{q y:Int × Nat × Bool × Bool × Bool}(h:Rd L (.lvl 10) d i (some q))(hs:Qkb L q.2.1=⟨#[63]⟩)(h2:Rd L .whole d (q.2.1+1) (some y))(hc:Qkb L y.2.1≠⟨#[58]⟩):Rd L .whole d i none:=by
 obtain⟨n,h⟩:=h;obtain⟨m,h2⟩:=h2
 exact⟨max n m+1,by rw[evT,Qtg L (Nat.le_max_left n m) h];show(if _ then _ else _)=_;rw[if_pos hs,Qtg L (Nat.le_max_right n m) h2];show(if _ then _ else _)=_;rw[if_neg hc]⟩
theorem Q6t{q y:Int × Nat × Bool × Bool × Bool}{r:Option (Int × Nat × Bool × Bool × Bool)}(h:Rd L (.lvl 10) d i (some q))(hs:Qkb L q.2.1=⟨#[63]⟩)(h2:Rd L .whole d (q.2.1+1) (some y))(hc:Qkb L y.2.1=⟨#[58]⟩)
 (h3:Rd L .whole d (y.2.1+1) r):Rd L .whole d i (r.map fun z=>(if q.1=0 then z.1 else y.1,z.2.1,orF (orF q.2.2 y.2.2) z.2.2)):=by
 obtain⟨n,h⟩:=h;obtain⟨m,h2⟩:=h2;obtain⟨o,h3⟩:=h3
 have a1:=Qtg L (Nat.le_trans (Nat.le_max_left n m) (Nat.le_max_left (max n m) o)) h
 have a2:=Qtg L (Nat.le_trans (Nat.le_max_right n m) (Nat.le_max_left (max n m) o)) h2
 have a3:=Qtg L (Nat.le_max_right (max n m) o) h3
 exact⟨max (max n m) o+1,by rw[evT,a1];show(if _ then _ else _)=_;rw[if_pos hs,a2];show(if _ then _ else _)=_;rw[if_pos hc,a3];rfl⟩
end
def QYj(R:Nat→Prop)(w:World)(v:Value)(L:List (Int × ByteArray × Int)):Prop:=
 ∃(a:Option Addr) (cap:Nat),v = .slice a L.length cap∧(∀t∈L,t.2.1.size≤maxLen)∧(0<L.length→∃g o,a=some ⟨g,o,none⟩∧R g∧∀(j:Nat) (h:j<L.length),
  w.cell? ⟨g,o+j*6,none⟩=some (.int .i64 L[j].1)∧w.cell? ⟨g,o+j*6+1,none⟩=some (.string L[j].2.1)∧w.cell? ⟨g,o+j*6+2,none⟩=some (.int .i64 L[j].2.2))
theorem QYj.keeps{R S:Nat→Prop}{w w':World}{v:Value}{L:List (Int × ByteArray × Int)}(h:QYj R w v L)(k:Qaa S w w')(hs:∀g,R g→¬S g):QYj R w' v L:=by
 obtain⟨a,cap,e,h1,h2⟩:=h
 refine⟨a,cap,e,h1,fun h0=>?_⟩
 obtain⟨g,o,ea,hR,hc⟩:=h2 h0
 refine⟨g,o,ea,hR,fun j hj=>?_⟩
 obtain⟨c0,c1,c2⟩:=hc j hj
 have Hh:=World.block_lt_of_cell? w _ c0
 exact⟨(k.cell (p:=⟨g,o+j*6,none⟩) Hh (hs g hR)).trans c0,(k.cell (p:=⟨g,o+j*6+1,none⟩) Hh (hs g hR)).trans c1,(k.cell (p:=⟨g,o+j*6+2,none⟩) Hh (hs g hR)).trans c2⟩
theorem Qqg.keeps{S:Nat→Prop}{w w':World}{g:Nat}{bs:List Nat}(h:Qqg w g bs)(k:Qaa S w w')(hg:¬S g)(hb:∀b∈bs,¬S b):Qqg w' g bs:=by
 obtain⟨h1,h2,h3⟩:=h
 exact⟨h1.keeps k hg,h2,fun i hi=>(h3 i hi).block (k.block _ (h3 i hi).lt (hb _ (List.getElem_mem hi)))⟩
def QZa(w:World)(r:Nat)(L:List (Int × ByteArray × Int))(i d:Nat)(syn dp gr dv:Bool):Prop:=
 ∃lv g bs,Holds w r #[lv,.slice (some ⟨g,0,none⟩) 10 10,.int .i64 i,.int .i64 d,.bool syn,.bool dp,.bool gr,.bool dv] 261∧QYj (fun x=>x≠r) w lv L∧Qqg w g bs∧g≠r∧(∀b∈bs,b≠r)∧i≤L.length∧L.length≤1000000000∧d≤i
theorem QZa.keeps{w w':World}{r:Nat}{L:List (Int × ByteArray × Int)}{i d:Nat}{syn dp gr dv:Bool}(h:QZa w r L i d syn dp gr dv)(k:Qaa (fun _=>False) w w'):QZa w' r L i d syn dp gr dv:=by
 obtain⟨lv,g,bs,h1,h2,h3,h4⟩:=h
 exact⟨lv,g,bs,h1.keeps k (fun e=>e),h2.keeps k (fun _ _ e=>e),h3.keeps k (fun e=>e) (fun _ _ e=>e),h4⟩
section
variable{w:World}{r:Nat}{L:List (Int × ByteArray × Int)}{i d:Nat}{syn dp gr dv:Bool}
theorem QZa.put(h:QZa w r L i d syn dp gr dv)(o:Nat)(x:Value){i' d':Nat}{syn' dp' gr' dv':Bool}(hi:i'≤L.length)(hd:d'≤i')
 (he:∀lv rv:Value,(#[lv,rv,.int .i64 i,.int .i64 d,.bool syn,.bool dp,.bool gr,.bool dv]:Array Value).setIfInBounds o x=#[lv,rv,.int .i64 i',.int .i64 d',.bool syn',.bool dp',.bool gr',.bool dv']) :
 QZa (w.setCell ⟨r,o,none⟩ x) r L i' d' syn' dp' gr' dv'∧Qaa (fun b=>b=r) w (w.setCell ⟨r,o,none⟩ x):=by
 obtain⟨lv,g,bs,h1,h2,h3,h4,h5,_,h7,_⟩:=h
 have k:=(Qaa.refl (fun b=>b=r) w).setCell (p:=⟨r,o,none⟩) (.inr rfl) x
 exact⟨⟨lv,g,bs,by rw[←he];exact h1.set o x,h2.keeps k (fun _ hg e=>hg e),h3.keeps k h4 h5,h4,h5,hi,h7,hd⟩,k⟩
theorem QZa.next(h:QZa w r L i d syn dp gr dv)(hi:i+1≤L.length):QZa (w.setCell ⟨r,2,none⟩ (.int .i64 ((i+1:Nat):Int))) r L (i+1) d syn dp gr dv∧Qaa (fun b=>b=r) w (w.setCell ⟨r,2,none⟩ (.int .i64 ((i+1:Nat):Int))):=
 h.put 2 _ hi (by obtain⟨_,_,_,_,_,_,_,_,_,_,hd⟩:=h;omega) (fun _ _=>rfl)
end
theorem Qot{a b:ByteArray}(h:a≠b):(a.toList == b.toList)=false:=by
 rw[beq_eq_false_iff_ne,ByteArray.toList_eq,ByteArray.toList_eq]
 intro e;exact h (by apply ByteArray.ext;exact Array.toList_inj.1 e)
def Qvb(r:Nat)(L:List (Int × ByteArray × Int))(i d:Nat)(syn dp gr dv:Bool)(w:World)(e:Ending)(w':World):Prop:=
 e = .returned (.string (if syn=true then⟨#[]⟩else Qkb L i))∧QZa w' r L i d syn dp gr dv∧Qaa (fun _=>False) w w'
theorem Qta(w:World)(n:Nat):Qaa (fun _=>False) w (w.drewN n):=(Qaa.refl _ w).drewN n
set_option maxRecDepth 100000 in
theorem QDb(r:Nat)(L:List (Int × ByteArray × Int))(i d:Nat)(syn dp gr dv:Bool)(w:World)(h:QZa w r L i d syn dp gr dv) :
 Calls Tryz.prog 234 #[.pointer (some ⟨r,0,none⟩)] w (Qvb r L i d syn dp gr dv w):=by
 have HR:=hid h
 obtain⟨lv,g,bs,hH,⟨a,cap,rfl,hsz,MV⟩,_,_,_,vb,hLb,_⟩:=h
 have kV:=hid MV
 clear MV hsz
 have c0:=hH.cell 0
 have c2:=hH.cell 2
 have c4:=hH.cell 4
 have cl:=hH.lt
 cases syn with
 | true=>
  go_enter Tryz.func234,Tryz.ntmps234
  go_wp2_with fail
  go_quiet (fail)
  go_wp2_with fail
  go_ret
  exact⟨rfl,HR.out.keeps (Qta _ _),Qta _ _⟩
 | false=>
  by_cases Hh:i<L.length
  ·have k8:(i:Int)<(L.length:Int):=by omega
   have Mp:¬((L.length:Int)≤(i:Int)):=by omega
   obtain⟨gt,ot,rfl,_,hc⟩:=kV.out (by omega)
   obtain⟨d0,d1,_⟩:=hc i Hh
   have hs:Qkb L i=if L[i].1=4 then L[i].2.1 else⟨#[]⟩:=by unfold Qkb;rw[List.getElem?_eq_getElem Hh]
   have HS:=hid hs
   clear hc hs
   generalize L[i].1=kd at *
   generalize L[i].2.1=tx at *
   by_cases hk:kd=4
   ·subst hk
    have Hn:=hid (show Qkb L i=tx from by rw[HS.out];rfl)
    go_enter Tryz.func234,Tryz.ntmps234
    go_wp2_with fail
    go_quiet (fail)
    go_wp2_with fail
    go_quiet (fail)
    go_wp2_with fail
    go_ret
    exact⟨by rw[Hn.out];rfl,(HR.out.keeps (Qta _ _)).keeps (Qta _ _),(Qta _ _).drewN _⟩
   ·have eS:(kd != 4)=true:=by simpa using hk
    have Hn:=hid (show Qkb L i=⟨#[]⟩from by rw[HS.out,if_neg hk])
    clear hk
    go_enter Tryz.func234,Tryz.ntmps234
    go_wp2_with fail
    go_quiet (fail)
    go_wp2_with fail
    go_ret
    exact⟨by rw[Hn.out];rfl,HR.out.keeps (Qta _ _),Qta _ _⟩
  ·have k8:¬(i:Int)<(L.length:Int):=by omega
   have Mp:(L.length:Int)≤(i:Int):=by omega
   have Hn:=hid (show Qkb L i=⟨#[]⟩from by unfold Qkb;rw[List.getElem?_eq_none (by omega)])
   go_enter Tryz.func234,Tryz.ntmps234
   go_wp2_with fail
   go_quiet (fail)
   go_wp2_with fail
   go_ret
   exact⟨by rw[Hn.out];rfl,HR.out.keeps (Qta _ _),Qta _ _⟩
def QUd(r:Nat)(L:List (Int × ByteArray × Int))(i d:Nat)(syn dp gr dv:Bool)(s:ByteArray)(w:World)(e:Ending)(w':World):Prop:=
 e = .returned (.tuple #[])∧Qaa (fun b=>b=r) w w'∧
  ((syn=false∧Qkb L i=s→QZa w' r L (i+1) d false dp gr dv)∧(¬(syn=false∧Qkb L i=s)→QZa w' r L i d true dp gr dv))
theorem Q0g{L:List (Int × ByteArray × Int)}{i:Nat}(h:Qkb L i≠⟨#[]⟩):i<L.length:=by
 rcases Nat.lt_or_ge i L.length with k|k
 ·exact k
 ·exact absurd (by unfold Qkb;rw[List.getElem?_eq_none k]) h
set_option maxRecDepth 100000 in
theorem Q5e(r:Nat)(L:List (Int × ByteArray × Int))(i d:Nat)(syn dp gr dv:Bool)(s:ByteArray)(w:World)(h:QZa w r L i d syn dp gr dv)(hs:s≠⟨#[]⟩) :
 Calls Tryz.prog 236 #[.pointer (some ⟨r,0,none⟩),.string s] w (QUd r L i d syn dp gr dv s w):=by
 have Hr:=QDb r L i d syn dp gr dv w h
 unfold Qvb at Hr
 have kM:syn=false→Qkb L i=s→i+1≤L.length:=fun _ e=>Q0g (by rw[e];exact hs)
 have sy:i≤1000000000:=by obtain⟨_,_,_,_,_,_,_,_,h1,h2,_⟩:=h;omega
 have Mf:=hid kM
 by_cases hy:syn=false∧Qkb L i=s
 ·obtain⟨rfl,rfl⟩:=hy
  have hn:=Mf.out rfl rfl
  clear kM
  go_enter Tryz.func236,Tryz.ntmps236
  go_wp2_with fail
  refine Hr.mono ?_
  rintro e w1 ⟨rfl,Hx,gz⟩
  have kr:=hid Hx
  obtain⟨lv,g,bs,hH,_⟩:=Hx
  have c2:=hH.cell 2
  have f2:=hH.free 2
  have cl:=hH.lt
  go_wp2_with fail
  go_end0
  obtain⟨h2,h3⟩:=kr.out.next hn
  rw[show((i+1:Nat):Int)=(i:Int)+1 from by omega]at h2 h3
  exact⟨rfl,(gz.mono (fun _ _ e=>e.elim)).trans h3 (fun _ _ e=>e),fun _=>h2,fun e=>absurd ⟨rfl,rfl⟩ e⟩
 ·have Hm:(if syn=true then(⟨#[]⟩:ByteArray)else Qkb L i)≠s:=by
   cases syn with
   | true=>simpa using hs.symm
   | false=>intro e;exact hy ⟨rfl,e⟩
  generalize (if syn=true then(⟨#[]⟩:ByteArray)else Qkb L i)=t at Hr Hm
  have mQ:=Qot Hm
  clear Hm
  have HY:=hid hy
  clear kM hy
  go_enter Tryz.func236,Tryz.ntmps236
  go_wp2_with fail
  refine Hr.mono ?_
  rintro e w1 ⟨rfl,Hx,gz⟩
  have kr:=hid Hx
  obtain⟨lv,g,bs,hH,_⟩:=Hx
  have c4:=hH.cell 4
  have f4:=hH.free 4
  have cl:=hH.lt
  go_wp2_with fail
  refine bodyPost_ret (results_none rfl _ _ _) rfl ?_
  have pz:d≤i∧i≤L.length:=by obtain⟨_,_,_,_,_,_,_,_,h1,_,h2⟩:=kr.out;exact⟨h2,h1⟩
  obtain⟨h2,h3⟩:=kr.out.put 4 (.bool true) (i':=i) (d':=d) (syn':=true) (dp':=dp) (gr':=gr) (dv':=dv) pz.2 pz.1 (fun _ _=>rfl)
  exact⟨rfl,(gz.mono (fun _ _ e=>e.elim)).trans h3 (fun _ _ e=>e),fun e=>absurd e HY.out,fun _=>h2⟩
theorem QXe{a:ByteArray}{l:List UInt8}(h:a.toList=l):a=⟨l.toArray⟩:=by
 rw[ByteArray.toList_eq]at h
 apply ByteArray.ext;show a.data=l.toArray;rw[←h]
section
variable{w:World}{r:Nat}{L:List (Int × ByteArray × Int)}{i d:Nat}{syn dp gr dv:Bool}
theorem QZa.cells(h:QZa w r L i d syn dp gr dv):w.cell? ⟨r,2,none⟩=some (.int .i64 i)∧w.cell? ⟨r,3,none⟩=some (.int .i64 d)∧w.cell? ⟨r,4,none⟩=some (.bool syn)∧w.cell? ⟨r,5,none⟩=some (.bool dp)∧w.cell? ⟨r,6,none⟩=some (.bool gr)∧w.cell? ⟨r,7,none⟩=some (.bool dv)∧
 w.frozen? ⟨r,2,none⟩=false∧w.frozen? ⟨r,3,none⟩=false∧w.frozen? ⟨r,4,none⟩=false∧w.frozen? ⟨r,5,none⟩=false∧w.frozen? ⟨r,6,none⟩=false∧w.frozen? ⟨r,7,none⟩=false∧r<w.heap.size∧i≤L.length∧L.length≤1000000000∧d≤i:=by
 obtain⟨lv,g,bs,h1,h2,h3,h4,h5,h6,h7,h8⟩:=h
 exact⟨h1.cell 2,h1.cell 3,h1.cell 4,h1.cell 5,h1.cell 6,h1.cell 7,h1.free 2,h1.free 3,h1.free 4,h1.free 5,h1.free 6,h1.free 7,h1.lt,h6,h7,h8⟩
theorem QZa.on(h:QZa w r L i d syn dp gr dv)(hi:i+1≤L.length):QZa (w.setCell ⟨r,2,none⟩ (.int .i64 ((i:Int)+1))) r L (i+1) d syn dp gr dv∧Qaa (fun b=>b=r) w (w.setCell ⟨r,2,none⟩ (.int .i64 ((i:Int)+1))):=by
 have:=h.next hi
 rwa [show((i+1:Nat):Int)=(i:Int)+1 from by omega]at this
theorem QZa.deeper(h:QZa w r L i d syn dp gr dv)(hd:d+1≤i):QZa (w.setCell ⟨r,3,none⟩ (.int .i64 ((d:Int)+1))) r L i (d+1) syn dp gr dv∧Qaa (fun b=>b=r) w (w.setCell ⟨r,3,none⟩ (.int .i64 ((d:Int)+1))):=by
 have:=h.put 3 (.int .i64 ((d+1:Nat):Int)) (i':=i) (d':=d+1) (syn':=syn) (dp':=dp) (gr':=gr) (dv':=dv) h.cells.2.2.2.2.2.2.2.2.2.2.2.2.2.1 hd (fun _ _=>rfl)
 rwa [show((d+1:Nat):Int)=(d:Int)+1 from by omega]at this
theorem QZa.back(h:QZa w r L i (d+1) syn dp gr dv):QZa (w.setCell ⟨r,3,none⟩ (.int .i64 (d:Int))) r L i d syn dp gr dv∧Qaa (fun b=>b=r) w (w.setCell ⟨r,3,none⟩ (.int .i64 (d:Int))):=
 h.put 3 (.int .i64 (d:Int)) (i':=i) (d':=d) h.cells.2.2.2.2.2.2.2.2.2.2.2.2.2.1 (by have:=h.cells.2.2.2.2.2.2.2.2.2.2.2.2.2.2.2;omega) (fun _ _=>rfl)
end
def QBe(r:Nat)(L:List (Int × ByteArray × Int))(d:Nat)(w:World)(e:Ending)(w':World):Prop:=
 ∃(v:Int) (i:Nat) (dp gr dv:Bool),e = .returned (.int .u32 v)∧0≤v∧v≤4294967295∧QZa w' r L i d true dp gr dv∧Qaa (fun b=>b=r) w w'
def Qec(r:Nat)(L:List (Int × ByteArray × Int))(W:Wh)(d i:Nat)(dp gr dv:Bool)(w:World)(e:Ending)(w':World):Prop:=
 (∃(v:Int) (j:Nat) (p g q:Bool),Rd L W d i (some (v,j,p,g,q))∧e = .returned (.int .u32 v)∧0≤v∧v≤4294967295∧i<j∧j≤L.length∧QZa w' r L j d false (dp || p) (gr || g) (dv || q)∧Qaa (fun b=>b=r) w w')∨
 (Rd L W d i none∧QBe r L d w e w')
theorem Qcb{r:Nat}{w w':World}(k:Qaa (fun _=>False) w w'):Qaa (fun b=>b=r) w w':=k.mono (fun _ _ e=>e.elim)
set_option maxRecDepth 100000 in
theorem QIl(r:Nat)(L:List (Int × ByteArray × Int))(d i:Nat)(gr dv:Bool)(w:World)(h:QZa w r L i d false true gr dv)(hs:¬Qkb L i=⟨#[40]⟩)(Hh:i<L.length)(hk:L[i].1=2) :
 Calls Tryz.prog 232 #[.pointer (some ⟨r,0,none⟩)] w (Qec r L .prim d i true gr dv w):=by
 have Hr:=QDb r L i d false true gr dv w h
 unfold Qvb at Hr
 simp only[Bool.false_eq_true,if_false]at Hr
 have mQ:((Qkb L i).toList == [40])=false:=by
  rw[beq_eq_false_iff_ne];intro e;exact hs (QXe e)
 have HS:=hid hs
 generalize Qkb L i=t at Hr mQ
 clear hs
 go_enter Tryz.func232,Tryz.ntmps232
 go_wp2_with fail
 refine Hr.mono ?_
 rintro e w1 ⟨rfl,Hx,gz⟩
 obtain⟨c2,c3,c4,c5,c6,_,f2,f3,f4,f5,f6,_,rl,Hb,Hc,Hi⟩:=Hx.cells
 have kr:=hid Hx
 obtain⟨lv,g,bs,hH,⟨a,cap,rfl,hsz,MV⟩,_⟩:=Hx
 have c0:=hH.cell 0
 have kV:=hid MV
 clear hH MV hsz
 have k8:(i:Int)<(L.length:Int):=by omega
 have Mp:¬((L.length:Int)≤(i:Int)):=by omega
 obtain⟨gt,ot,rfl,_,hc⟩:=kV.out (by omega)
 obtain⟨d0,d1,d2⟩:=hc i Hh
 have Gp:L[i]? = some L[i]:=List.getElem?_eq_getElem Hh
 have aN:=hid Gp
 clear hc Gp d1
 have Gf:=Qcq (d:=d) HS.out aN.out hk
 rw[hk]at d0
 have Mu:=hid Gf
 clear Gf hk
 generalize L[i].2.2=x at *
 have Hn:∀(wx:World) (gr':Bool),gr'=(gr || (decide (x<0) || decide (4294967295<x)))→Qaa (fun _=>False) w1 wx→
  Qec r L .prim d i true gr dv w (.returned (.int .u32 (x % 4294967296))) (((wx.setCell ⟨r,2,none⟩ (.int .i64 ((i:Int)+1))).setCell ⟨r,5,none⟩ (.bool true)).setCell ⟨r,6,none⟩ (.bool gr')):=by
  intro wx gr' e2 iA
  obtain⟨q1,m1⟩:=(kr.out.keeps iA).on (by omega)
  obtain⟨q2,m2⟩:=q1.put 5 (.bool true) (i':=i+1) (d':=d) (syn':=false) (dp':=true) (gr':=gr) (dv':=dv) (by omega) (by omega) (fun _ _=>rfl)
  obtain⟨q3,m3⟩:=q2.put 6 (.bool gr') (i':=i+1) (d':=d) (syn':=false) (dp':=true) (gr':=gr') (dv':=dv) (by omega) (by omega) (fun _ _=>rfl)
  refine .inl ⟨_,_,_,_,_,Mu.out,rfl,by omega,by omega,by omega,by omega,?_,(((((Qcb gz).trans (Qcb iA) (fun _ _ e=>e)).trans m1 (fun _ _ e=>e)).trans m2 (fun _ _ e=>e)).trans m3 (fun _ _ e=>e))⟩
  rw[←e2,Bool.or_false,show(true || decide (8<d))=true from by rfl];exact q3
 have gX:=hid Hn
 clear Hn
 cases gr with
 | true=>
  go_wp2_with fail
  go_quiet (fail)
  go_wp2_with fail
  go_quiet (fail)
  go_wp2_with fail
  go_ret
  exact gX.out _ true (by simp) (Qta _ _)
 | false=>
  by_cases hx:x<0
  ·go_wp2_with fail
   go_quiet (fail)
   go_wp2_with fail
   go_quiet (fail)
   go_wp2_with fail
   go_ret
   exact gX.out _ true (by simp[hx]) (Qta _ _)
  ·by_cases hy:(4294967295:Int)<x
   ·go_wp2_with fail
    go_quiet (fail)
    go_wp2_with fail
    go_quiet (fail)
    go_wp2_with fail
    go_ret
    exact gX.out _ true (by simp[hy]) (Qta _ _)
   ·go_wp2_with fail
    go_quiet (fail)
    go_wp2_with fail
    go_quiet (fail)
    go_wp2_with fail
    go_ret
    have hq:=fun n=>gX.out (w1.drewN n) (decide (x<0) || decide (4294967295<x)) (by simp) (Qta _ _)
    rw[show x % 4294967296=x from by omega]at hq
    exact hq _
set_option maxRecDepth 100000 in
theorem QJl(r:Nat)(L:List (Int × ByteArray × Int))(d i:Nat)(gr dv:Bool)(w:World)(h8:8<d)(h:QZa w r L i d false false gr dv)(hs:¬Qkb L i=⟨#[40]⟩)(Hh:i<L.length)(hk:L[i].1=2) :
 Calls Tryz.prog 232 #[.pointer (some ⟨r,0,none⟩)] w (Qec r L .prim d i false gr dv w):=by
 have Hr:=QDb r L i d false false gr dv w h
 unfold Qvb at Hr
 simp only[Bool.false_eq_true,if_false]at Hr
 have mQ:((Qkb L i).toList == [40])=false:=by
  rw[beq_eq_false_iff_ne];intro e;exact hs (QXe e)
 have HS:=hid hs
 generalize Qkb L i=t at Hr mQ
 clear hs
 have CF:(8:Int)<(d:Int):=by omega
 go_enter Tryz.func232,Tryz.ntmps232
 go_wp2_with fail
 refine Hr.mono ?_
 rintro e w1 ⟨rfl,Hx,gz⟩
 obtain⟨c2,c3,c4,c5,c6,_,f2,f3,f4,f5,f6,_,rl,Hb,Hc,Hi⟩:=Hx.cells
 have kr:=hid Hx
 obtain⟨lv,g,bs,hH,⟨a,cap,rfl,hsz,MV⟩,_⟩:=Hx
 have c0:=hH.cell 0
 have kV:=hid MV
 clear hH MV hsz
 have k8:(i:Int)<(L.length:Int):=by omega
 have Mp:¬((L.length:Int)≤(i:Int)):=by omega
 obtain⟨gt,ot,rfl,_,hc⟩:=kV.out (by omega)
 obtain⟨d0,d1,d2⟩:=hc i Hh
 have Gp:L[i]? = some L[i]:=List.getElem?_eq_getElem Hh
 have aN:=hid Gp
 clear hc Gp d1
 have Gf:=Qcq (d:=d) HS.out aN.out hk
 rw[hk]at d0
 have Mu:=hid Gf
 clear Gf hk
 generalize L[i].2.2=x at *
 have Hn:∀(wx:World) (gr':Bool),gr'=(gr || (decide (x<0) || decide (4294967295<x)))→Qaa (fun _=>False) w1 wx→
  Qec r L .prim d i false gr dv w (.returned (.int .u32 (x % 4294967296))) (((wx.setCell ⟨r,2,none⟩ (.int .i64 ((i:Int)+1))).setCell ⟨r,5,none⟩ (.bool true)).setCell ⟨r,6,none⟩ (.bool gr')):=by
  intro wx gr' e2 iA
  obtain⟨q1,m1⟩:=(kr.out.keeps iA).on (by omega)
  obtain⟨q2,m2⟩:=q1.put 5 (.bool true) (i':=i+1) (d':=d) (syn':=false) (dp':=true) (gr':=gr) (dv':=dv) (by omega) (by omega) (fun _ _=>rfl)
  obtain⟨q3,m3⟩:=q2.put 6 (.bool gr') (i':=i+1) (d':=d) (syn':=false) (dp':=true) (gr':=gr') (dv':=dv) (by omega) (by omega) (fun _ _=>rfl)
  refine .inl ⟨_,_,_,_,_,Mu.out,rfl,by omega,by omega,by omega,by omega,?_,(((((Qcb gz).trans (Qcb iA) (fun _ _ e=>e)).trans m1 (fun _ _ e=>e)).trans m2 (fun _ _ e=>e)).trans m3 (fun _ _ e=>e))⟩
  rw[←e2,Bool.or_false,show(false || decide (8<d))=true from by simp[h8]];exact q3
 have gX:=hid Hn
 clear Hn
 cases gr with
 | true=>
  go_wp2_with fail
  go_quiet (fail)
  go_wp2_with fail
  go_quiet (fail)
  go_wp2_with fail
  go_ret
  exact gX.out _ true (by simp) (Qta _ _)
 | false=>
  by_cases hx:x<0
  ·go_wp2_with fail
   go_quiet (fail)
   go_wp2_with fail
   go_quiet (fail)
   go_wp2_with fail
   go_ret
   exact gX.out _ true (by simp[hx]) (Qta _ _)
  ·by_cases hy:(4294967295:Int)<x
   ·go_wp2_with fail
    go_quiet (fail)
    go_wp2_with fail
    go_quiet (fail)
    go_wp2_with fail
    go_ret
    exact gX.out _ true (by simp[hy]) (Qta _ _)
   ·go_wp2_with fail
    go_quiet (fail)
    go_wp2_with fail
    go_quiet (fail)
    go_wp2_with fail
    go_ret
    have hq:=fun n=>gX.out (w1.drewN n) (decide (x<0) || decide (4294967295<x)) (by simp) (Qta _ _)
    rw[show x % 4294967296=x from by omega]at hq
    exact hq _
set_option maxRecDepth 100000 in
theorem QKl(r:Nat)(L:List (Int × ByteArray × Int))(d i:Nat)(gr dv:Bool)(w:World)(h8:¬8<d)(h:QZa w r L i d false false gr dv)(hs:¬Qkb L i=⟨#[40]⟩)(Hh:i<L.length)(hk:L[i].1=2) :
 Calls Tryz.prog 232 #[.pointer (some ⟨r,0,none⟩)] w (Qec r L .prim d i false gr dv w):=by
 have Hr:=QDb r L i d false false gr dv w h
 unfold Qvb at Hr
 simp only[Bool.false_eq_true,if_false]at Hr
 have mQ:((Qkb L i).toList == [40])=false:=by
  rw[beq_eq_false_iff_ne];intro e;exact hs (QXe e)
 have HS:=hid hs
 generalize Qkb L i=t at Hr mQ
 clear hs
 have CF:¬(8:Int)<(d:Int):=by omega
 go_enter Tryz.func232,Tryz.ntmps232
 go_wp2_with fail
 refine Hr.mono ?_
 rintro e w1 ⟨rfl,Hx,gz⟩
 obtain⟨c2,c3,c4,c5,c6,_,f2,f3,f4,f5,f6,_,rl,Hb,Hc,Hi⟩:=Hx.cells
 have kr:=hid Hx
 obtain⟨lv,g,bs,hH,⟨a,cap,rfl,hsz,MV⟩,_⟩:=Hx
 have c0:=hH.cell 0
 have kV:=hid MV
 clear hH MV hsz
 have k8:(i:Int)<(L.length:Int):=by omega
 have Mp:¬((L.length:Int)≤(i:Int)):=by omega
 obtain⟨gt,ot,rfl,_,hc⟩:=kV.out (by omega)
 obtain⟨d0,d1,d2⟩:=hc i Hh
 have Gp:L[i]? = some L[i]:=List.getElem?_eq_getElem Hh
 have aN:=hid Gp
 clear hc Gp d1
 have Gf:=Qcq (d:=d) HS.out aN.out hk
 rw[hk]at d0
 have Mu:=hid Gf
 clear Gf hk
 generalize L[i].2.2=x at *
 have Hn:∀(wx:World) (gr':Bool),gr'=(gr || (decide (x<0) || decide (4294967295<x)))→Qaa (fun _=>False) w1 wx→
  Qec r L .prim d i false gr dv w (.returned (.int .u32 (x % 4294967296))) (((wx.setCell ⟨r,2,none⟩ (.int .i64 ((i:Int)+1))).setCell ⟨r,5,none⟩ (.bool (decide ((8:Int)<(d:Int))))).setCell ⟨r,6,none⟩ (.bool gr')):=by
  intro wx gr' e2 iA
  obtain⟨q1,m1⟩:=(kr.out.keeps iA).on (by omega)
  obtain⟨q2,m2⟩:=q1.put 5 (.bool (decide ((8:Int)<(d:Int)))) (i':=i+1) (d':=d) (syn':=false) (dp':=(decide ((8:Int)<(d:Int)))) (gr':=gr) (dv':=dv) (by omega) (by omega) (fun _ _=>rfl)
  obtain⟨q3,m3⟩:=q2.put 6 (.bool gr') (i':=i+1) (d':=d) (syn':=false) (dp':=(decide ((8:Int)<(d:Int)))) (gr':=gr') (dv':=dv) (by omega) (by omega) (fun _ _=>rfl)
  refine .inl ⟨_,_,_,_,_,Mu.out,rfl,by omega,by omega,by omega,by omega,?_,(((((Qcb gz).trans (Qcb iA) (fun _ _ e=>e)).trans m1 (fun _ _ e=>e)).trans m2 (fun _ _ e=>e)).trans m3 (fun _ _ e=>e))⟩
  rw[←e2,Bool.or_false,show(false || decide (8<d))=(decide ((8:Int)<(d:Int)))from by(rw[Bool.false_or];exact decide_eq_decide.2 (by omega))];exact q3
 have gX:=hid Hn
 clear Hn
 cases gr with
 | true=>
  go_wp2_with fail
  go_quiet (fail)
  go_wp2_with fail
  go_quiet (fail)
  go_wp2_with fail
  go_ret
  exact gX.out _ true (by simp) (Qta _ _)
 | false=>
  by_cases hx:x<0
  ·go_wp2_with fail
   go_quiet (fail)
   go_wp2_with fail
   go_quiet (fail)
   go_wp2_with fail
   go_ret
   exact gX.out _ true (by simp[hx]) (Qta _ _)
  ·by_cases hy:(4294967295:Int)<x
   ·go_wp2_with fail
    go_quiet (fail)
    go_wp2_with fail
    go_quiet (fail)
    go_wp2_with fail
    go_ret
    exact gX.out _ true (by simp[hy]) (Qta _ _)
   ·go_wp2_with fail
    go_quiet (fail)
    go_wp2_with fail
    go_quiet (fail)
    go_wp2_with fail
    go_ret
    have hq:=fun n=>gX.out (w1.drewN n) (decide (x<0) || decide (4294967295<x)) (by simp) (Qta _ _)
    rw[show x % 4294967296=x from by omega]at hq
    exact hq _
set_option maxRecDepth 100000 in
theorem QFf(r:Nat)(L:List (Int × ByteArray × Int))(d i:Nat)(dp gr dv:Bool)(w:World)(h:QZa w r L i d false dp gr dv)
 (hW:i+1≤L.length→∀(dp gr dv:Bool) (w:World),QZa w r L (i+1) (d+1) false dp gr dv→Calls Tryz.prog 235 #[.pointer (some ⟨r,0,none⟩)] w (Qec r L .whole (d+1) (i+1) dp gr dv w)) :
 Calls Tryz.prog 232 #[.pointer (some ⟨r,0,none⟩)] w (Qec r L .prim d i dp gr dv w):=by
 have Hr:=QDb r L i d false dp gr dv w h
 unfold Qvb at Hr
 simp only[Bool.false_eq_true,if_false]at Hr
 have HW:=hid hW;clear hW
 by_cases hs:Qkb L i=⟨#[40]⟩
 ·have G7:i+1≤L.length:=Q0g (by rw[hs];decide)
  have HS:=hid hs
  rw[hs]at Hr
  clear hs
  go_enter Tryz.func232,Tryz.ntmps232
  go_wp2_with fail
  refine Hr.mono ?_
  rintro e w1 ⟨rfl,Hx,gz⟩
  obtain⟨c2,c3,_,_,_,_,f2,f3,_,_,_,_,rl,Hb,Hc,Hi⟩:=Hx.cells
  obtain⟨gd,gJ⟩:=Hx.on G7
  obtain⟨MG,Hy⟩:=gd.deeper (by omega)
  go_wp2_with fail
  refine(HW.out G7 _ _ _ _ (by exact MG)).mono ?_
  have gA:=((Qcb gz).trans gJ (fun _ _ e=>e)).trans Hy (fun _ _ e=>e)
  clear Hx gd MG gz gJ Hy c2 c3 f2 f3
  rintro e w2 (⟨v,j,p,g,q,Gf,rfl,kU,Kc,iy,iz,aJ,Gl⟩|⟨Gf,v,j,p,g,q,rfl,kU,Kc,aJ,Gl⟩)
  ·have da:=gA.trans Gl (fun _ _ e=>e)
   obtain⟨_,c3,_,_,_,_,_,f3,_,_,_,_,rl2,_,_,H9⟩:=aJ.cells
   obtain⟨mo,k5⟩:=aJ.back
   have kQ:=da.trans k5 (fun _ _ e=>e)
   have jJ:=Q5e r L j d false _ _ _ ⟨#[41]⟩ _ mo (by decide)
   unfold QUd at jJ
   go_wp2_with fail
   refine jJ.mono ?_
   rintro e w3 ⟨rfl,Ml,ip,bJ⟩
   have oB:=hid ip
   have aQ:=hid bJ
   clear ip bJ
   go_wp2_with fail
   go_ret
   by_cases hc:Qkb L j=⟨#[41]⟩
   ·exact .inl ⟨v,j+1,p,g,q,Q9t HS.out Gf hc,rfl,kU,Kc,by omega,Q0g (by rw[hc];decide),oB.out ⟨by trivial,hc⟩,kQ.trans Ml (fun _ _ e=>e)⟩
   ·exact .inr ⟨Qgo HS.out Gf hc,v,j,_,_,_,rfl,kU,Kc,aQ.out (fun e=>hc e.2),kQ.trans Ml (fun _ _ e=>e)⟩
  ·have da:=gA.trans Gl (fun _ _ e=>e)
   obtain⟨_,c3,_,_,_,_,_,f3,_,_,_,_,rl2,_,_,H9⟩:=aJ.cells
   obtain⟨mo,k5⟩:=aJ.back
   have kQ:=da.trans k5 (fun _ _ e=>e)
   have jJ:=Q5e r L j d true _ _ _ ⟨#[41]⟩ _ mo (by decide)
   unfold QUd at jJ
   go_wp2_with fail
   refine jJ.mono ?_
   rintro e w3 ⟨rfl,Ml,ip,bJ⟩
   have oB:=hid ip
   have aQ:=hid bJ
   clear ip bJ
   go_wp2_with fail
   go_ret
   exact .inr ⟨Qfm HS.out Gf,v,j,_,_,_,rfl,kU,Kc,aQ.out (by simp),kQ.trans Ml (fun _ _ e=>e)⟩
 ·by_cases Ka:∃Hh:i<L.length,L[i].1=2
  ·obtain⟨Hh,hk⟩:=Ka
   clear HW Hr
   cases dp with
   | true=>exact QIl r L d i gr dv w h hs Hh hk
   | false=>
    by_cases h8:8<d
    ·exact QJl r L d i gr dv w h8 h hs Hh hk
    ·exact QKl r L d i gr dv w h8 h hs Hh hk
  ·have vX:=hid Ka
   clear Ka
   have mQ:((Qkb L i).toList == [40])=false:=by
    rw[beq_eq_false_iff_ne];intro e;exact hs (QXe e)
   have HS:=hid hs
   generalize Qkb L i=t at Hr mQ
   clear hs
   have ir:∀wx:World,QZa wx r L i d false dp gr dv→Qaa (fun b=>b=r) w wx→Rd L .prim d i none→
    Qec r L .prim d i dp gr dv w (.returned (.int .u32 0)) (wx.setCell ⟨r,4,none⟩ (.bool true)):=by
    intro wx hx kx hn
    obtain⟨q1,m1⟩:=hx.put 4 (.bool true) (i':=i) (d':=d) (syn':=true) (dp':=dp) (gr':=gr) (dv':=dv) hx.cells.2.2.2.2.2.2.2.2.2.2.2.2.2.1 hx.cells.2.2.2.2.2.2.2.2.2.2.2.2.2.2.2 (fun _ _=>rfl)
    exact .inr ⟨hn,0,i,dp,gr,dv,rfl,by omega,by omega,q1,kx.trans m1 (fun _ _ e=>e)⟩
   have fD:=hid ir
   clear ir
   go_enter Tryz.func232,Tryz.ntmps232
   go_wp2_with fail
   refine Hr.mono ?_
   rintro e w1 ⟨rfl,Hx,gz⟩
   obtain⟨c2,c3,c4,c5,c6,_,f2,f3,f4,f5,f6,_,rl,Hb,Hc,Hi⟩:=Hx.cells
   have kr:=hid Hx
   obtain⟨lv,g,bs,hH,⟨a,cap,rfl,hsz,MV⟩,_⟩:=Hx
   have c0:=hH.cell 0
   have kV:=hid MV
   clear hH MV hsz
   by_cases Hh:i<L.length
   ·have k8:(i:Int)<(L.length:Int):=by omega
    have Mp:¬((L.length:Int)≤(i:Int)):=by omega
    obtain⟨gt,ot,rfl,_,hc⟩:=kV.out (by omega)
    obtain⟨d0,d1,d2⟩:=hc i Hh
    have Gp:L[i]? = some L[i]:=List.getElem?_eq_getElem Hh
    have aN:=hid Gp
    clear hc Gp d1
    have hk:¬L[i].1=2:=fun e=>vX.out ⟨Hh,e⟩
    have eS:(L[i].1 != 2)=true:=by simpa using hk
    have Gf:=Q4m (d:=d) HS.out (by rw[aN.out];intro t' e;injection e with e;rw[←e];exact hk)
    have Mu:=hid Gf
    clear Gf hk
    generalize L[i].1=kd at *
    go_wp2_with fail
    go_quiet (fail)
    go_wp2_with fail
    go_ret
    exact fD.out _ (kr.out.keeps (Qta _ _)) ((Qcb gz).trans (Qcb (Qta _ _)) (fun _ _ e=>e)) Mu.out
   ·have k8:¬(i:Int)<(L.length:Int):=by omega
    have Mp:(L.length:Int)≤(i:Int):=by omega
    have Gf:=Q4m (d:=d) HS.out (by rw[List.getElem?_eq_none (by omega)];rintro t' ⟨⟩)
    have Mu:=hid Gf
    clear Gf
    go_wp2_with fail
    go_quiet (fail)
    go_wp2_with fail
    go_ret
    exact fD.out _ (kr.out.keeps (Qta _ _)) ((Qcb gz).trans (Qcb (Qta _ _)) (fun _ _ e=>e)) Mu.out
end Go.Proofs.YtgaboghigefgbaaGreatDoor
