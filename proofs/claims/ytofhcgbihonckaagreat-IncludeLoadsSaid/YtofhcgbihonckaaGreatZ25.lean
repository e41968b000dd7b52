/- bringupref02: rank (printed by grfec.py). | Plain: reading by ranks is reading by levels. | bringupref02: what its methods leave. | bringupref02: operand. | bringupref02: row. | bringupref02: the walk of row. | bringupref02: whole. | bringupref02: done, Value, Primary. -/
import Derived.Test.YtofhcgbihonckaaGreatZ2
import Derived.Test.YtofhcgbihonckaaGreatZ3
import Derived.Test.YtofhcgbihonckaaGreatZ7
import Derived.Deep.LoopGhost
import Derived.StillTailTactics
import Derived.Deep.DeepCutAuto
import Derived.Deep.CutBlock
import Derived.Test.YtofhcgbihonckaaGreatZ6
set_option linter.all false
set_option maxHeartbeats 8000000
namespace Go.Proofs.YtofhcgbihonckaaGreat
open Go.Lib (hid)
open Go.RowKit
def Qwe:List (List ByteArray):=[[⟨#[124,124]⟩],[⟨#[38,38]⟩],[⟨#[124]⟩],[⟨#[94]⟩],[⟨#[38]⟩],[⟨#[61,61]⟩,⟨#[33,61]⟩],[⟨#[60]⟩,⟨#[62]⟩,⟨#[60,61]⟩,⟨#[62,61]⟩],[⟨#[60,60]⟩,⟨#[62,62]⟩],[⟨#[43]⟩,⟨#[45]⟩],[⟨#[42]⟩,⟨#[47]⟩,⟨#[37]⟩]]
theorem QWk:∀i,i<10→Qwe.getD i []=(Qgc.getD (9-i) []).map (·.1):=by decide
theorem Q5m{q:Nat}{s:ByteArray}(h:s ∉ (Qgc.getD q []).map (·.1)):Qlc q s=none:=by
 unfold Qlc
 rw[Option.map_eq_none_iff,List.find?_eq_none]
 intro p hp e
 simp only[decide_eq_true_eq]at e
 exact h (List.mem_map.2 ⟨p,hp,e⟩)
theorem Q6m{q:Nat}{s:ByteArray}(h:s∈(Qgc.getD q []).map (·.1)):∃f,Qlc q s=some f:=by
 obtain⟨p,hp,e⟩:=List.mem_map.1 h
 unfold Qlc
 cases hf:(Qgc.getD q []).find? (fun p=>decide (p.1=s))with
 | none=>
  rw[List.find?_eq_none]at hf
  exact absurd (by simpa using e) (hf p hp)
 | some x=>exact⟨x.2,rfl⟩
def Qvn(s:ByteArray)(w:World)(e:Ending)(w':World):Prop:=
 ∃R:Int,e = .returned (.int .i64 R)∧((R=0∧∀q,q<10→Qlc q s=none)∨∃q f:Nat,q<10∧R=10-(q:Int)∧Qlc q s=some f)∧Below w.heap.size w w'
structure QTr(B:Nat)(w:World):Prop where
 top:Qca w (B+10) ((List.range 10).map fun i=>Value.slice (some ⟨B+i,0,none⟩) (Qwe.getD i []).length (Qwe.getD i []).length).toArray 39
 row:∀i,i<10→Qca w (B+i) ((Qwe.getD i []).map Value.string).toArray 9
theorem Qeq(w:World):QTr w.heap.size (((((((((((w.alloc (.cells #[.string ⟨#[124,124]⟩] 9)).alloc (.cells #[.string ⟨#[38,38]⟩] 9)).alloc (.cells #[.string ⟨#[124]⟩] 9)).alloc (.cells #[.string ⟨#[94]⟩] 9)).alloc (.cells #[.string ⟨#[38]⟩] 9)).alloc (.cells #[.string ⟨#[61,61]⟩,.string ⟨#[33,61]⟩] 9)).alloc (.cells #[.string ⟨#[60]⟩,.string ⟨#[62]⟩,.string ⟨#[60,61]⟩,.string ⟨#[62,61]⟩] 9)).alloc (.cells #[.string ⟨#[60,60]⟩,.string ⟨#[62,62]⟩] 9)).alloc (.cells #[.string ⟨#[43]⟩,.string ⟨#[45]⟩] 9)).alloc (.cells #[.string ⟨#[42]⟩,.string ⟨#[47]⟩,.string ⟨#[37]⟩] 9)).alloc (.cells #[.slice (some ⟨w.heap.size,0,none⟩) 1 1,.slice (some ⟨w.heap.size+1,0,none⟩) 1 1,.slice (some ⟨w.heap.size+2,0,none⟩) 1 1,.slice (some ⟨w.heap.size+3,0,none⟩) 1 1,.slice (some ⟨w.heap.size+4,0,none⟩) 1 1,.slice (some ⟨w.heap.size+5,0,none⟩) 2 2,.slice (some ⟨w.heap.size+6,0,none⟩) 4 4,.slice (some ⟨w.heap.size+7,0,none⟩) 2 2,.slice (some ⟨w.heap.size+8,0,none⟩) 2 2,.slice (some ⟨w.heap.size+9,0,none⟩) 3 3] 39))∧Below w.heap.size w (((((((((((w.alloc (.cells #[.string ⟨#[124,124]⟩] 9)).alloc (.cells #[.string ⟨#[38,38]⟩] 9)).alloc (.cells #[.string ⟨#[124]⟩] 9)).alloc (.cells #[.string ⟨#[94]⟩] 9)).alloc (.cells #[.string ⟨#[38]⟩] 9)).alloc (.cells #[.string ⟨#[61,61]⟩,.string ⟨#[33,61]⟩] 9)).alloc (.cells #[.string ⟨#[60]⟩,.string ⟨#[62]⟩,.string ⟨#[60,61]⟩,.string ⟨#[62,61]⟩] 9)).alloc (.cells #[.string ⟨#[60,60]⟩,.string ⟨#[62,62]⟩] 9)).alloc (.cells #[.string ⟨#[43]⟩,.string ⟨#[45]⟩] 9)).alloc (.cells #[.string ⟨#[42]⟩,.string ⟨#[47]⟩,.string ⟨#[37]⟩] 9)).alloc (.cells #[.slice (some ⟨w.heap.size,0,none⟩) 1 1,.slice (some ⟨w.heap.size+1,0,none⟩) 1 1,.slice (some ⟨w.heap.size+2,0,none⟩) 1 1,.slice (some ⟨w.heap.size+3,0,none⟩) 1 1,.slice (some ⟨w.heap.size+4,0,none⟩) 1 1,.slice (some ⟨w.heap.size+5,0,none⟩) 2 2,.slice (some ⟨w.heap.size+6,0,none⟩) 4 4,.slice (some ⟨w.heap.size+7,0,none⟩) 2 2,.slice (some ⟨w.heap.size+8,0,none⟩) 2 2,.slice (some ⟨w.heap.size+9,0,none⟩) 3 3] 39)):=by
 refine⟨⟨?_,?_⟩,?_⟩
 ·exact Qca.newAt (by simp) _ _
 ·intro i hi
  have hc:i=0∨i=1∨i=2∨i=3∨i=4∨i=5∨i=6∨i=7∨i=8∨i=9:=by omega
  rcases hc with rfl|rfl|rfl|rfl|rfl|rfl|rfl|rfl|rfl|rfl
  ·exact((((((((((Qca.newAt (B:=w.heap.size+0) (by simp) #[.string ⟨#[124,124]⟩] 9).alloc _).alloc _).alloc _).alloc _).alloc _).alloc _).alloc _).alloc _).alloc _).alloc _
  ·exact(((((((((Qca.newAt (B:=w.heap.size+1) (by simp) #[.string ⟨#[38,38]⟩] 9).alloc _).alloc _).alloc _).alloc _).alloc _).alloc _).alloc _).alloc _).alloc _
  ·exact((((((((Qca.newAt (B:=w.heap.size+2) (by simp) #[.string ⟨#[124]⟩] 9).alloc _).alloc _).alloc _).alloc _).alloc _).alloc _).alloc _).alloc _
  ·exact(((((((Qca.newAt (B:=w.heap.size+3) (by simp) #[.string ⟨#[94]⟩] 9).alloc _).alloc _).alloc _).alloc _).alloc _).alloc _).alloc _
  ·exact((((((Qca.newAt (B:=w.heap.size+4) (by simp) #[.string ⟨#[38]⟩] 9).alloc _).alloc _).alloc _).alloc _).alloc _).alloc _
  ·exact(((((Qca.newAt (B:=w.heap.size+5) (by simp) #[.string ⟨#[61,61]⟩,.string ⟨#[33,61]⟩] 9).alloc _).alloc _).alloc _).alloc _).alloc _
  ·exact((((Qca.newAt (B:=w.heap.size+6) (by simp) #[.string ⟨#[60]⟩,.string ⟨#[62]⟩,.string ⟨#[60,61]⟩,.string ⟨#[62,61]⟩] 9).alloc _).alloc _).alloc _).alloc _
  ·exact(((Qca.newAt (B:=w.heap.size+7) (by simp) #[.string ⟨#[60,60]⟩,.string ⟨#[62,62]⟩] 9).alloc _).alloc _).alloc _
  ·exact((Qca.newAt (B:=w.heap.size+8) (by simp) #[.string ⟨#[43]⟩,.string ⟨#[45]⟩] 9).alloc _).alloc _
  ·exact(Qca.newAt (B:=w.heap.size+9) (by simp) #[.string ⟨#[42]⟩,.string ⟨#[47]⟩,.string ⟨#[37]⟩] 9).alloc _
 ·exact(((((((((((Below.refl w.heap.size w).alloc (by simp <;> omega) _).alloc (by simp <;> omega) _).alloc (by simp <;> omega) _).alloc (by simp <;> omega) _).alloc (by simp <;> omega) _).alloc (by simp <;> omega) _).alloc (by simp <;> omega) _).alloc (by simp <;> omega) _).alloc (by simp <;> omega) _).alloc (by simp <;> omega) _).alloc (by simp <;> omega) _
set_option maxRecDepth 100000 in
theorem Q2p(s:ByteArray)(w:World):Calls Tryz.prog 184 #[.string s] w (Qvn s w):=by
 obtain⟨hR,hB⟩:=Qeq w
 have HR:=hid hR
 have HB:=hid hB
 clear hR hB
 go_enter Tryz.func184,Tryz.ntmps184
 go_upto_region 2 with fail
 generalize ((((((((((w.alloc (.cells #[.string ⟨#[124,124]⟩] 9)).alloc (.cells #[.string ⟨#[38,38]⟩] 9)).alloc (.cells #[.string ⟨#[124]⟩] 9)).alloc (.cells #[.string ⟨#[94]⟩] 9)).alloc (.cells #[.string ⟨#[38]⟩] 9)).alloc (.cells #[.string ⟨#[61,61]⟩,.string ⟨#[33,61]⟩] 9)).alloc (.cells #[.string ⟨#[60]⟩,.string ⟨#[62]⟩,.string ⟨#[60,61]⟩,.string ⟨#[62,61]⟩] 9)).alloc (.cells #[.string ⟨#[60,60]⟩,.string ⟨#[62,62]⟩] 9)).alloc (.cells #[.string ⟨#[43]⟩,.string ⟨#[45]⟩] 9)).alloc (.cells #[.string ⟨#[42]⟩,.string ⟨#[47]⟩,.string ⟨#[37]⟩] 9)).alloc (.cells #[.slice (some ⟨w.heap.size,0,none⟩) 1 1,.slice (some ⟨w.heap.size+1,0,none⟩) 1 1,.slice (some ⟨w.heap.size+2,0,none⟩) 1 1,.slice (some ⟨w.heap.size+3,0,none⟩) 1 1,.slice (some ⟨w.heap.size+4,0,none⟩) 1 1,.slice (some ⟨w.heap.size+5,0,none⟩) 2 2,.slice (some ⟨w.heap.size+6,0,none⟩) 4 4,.slice (some ⟨w.heap.size+7,0,none⟩) 2 2,.slice (some ⟨w.heap.size+8,0,none⟩) 2 2,.slice (some ⟨w.heap.size+9,0,none⟩) 3 3] 39)=W at *
 go_wp2_with fail
 go_loopg [19] 10 (fun f x wr=>∃i:Nat,x = .int .i64 i∧i≤10∧10≤i+f∧Hid (∀q,q<i→s ∉ Qwe.getD q [])∧W=wr)
 case atStart=>exact⟨0,rfl,by omega,by omega,hid (fun q h=>by omega),rfl⟩
 case round=>
  obtain⟨io,rfl,G3,Kc,hN,rfl⟩:=hrel
  obtain⟨go,rfl⟩:∃x:Nat,x=gk:=⟨_,rfl⟩
  by_cases Hh:io<10
  ·have qz:(io:Int)<10:=by omega
   have tK:W.cell? ⟨w.heap.size+10,io,none⟩=some (.slice (some ⟨w.heap.size+io,0,none⟩) (Qwe.getD io []).length (Qwe.getD io []).length):=by
    rw[HR.out.top.cell io]
    simp[Hh]
   have H7:=HR.out.top.lt
   have Hc:=hid (HR.out.row io Hh)
   have qE:(Qwe.getD io []).length≤4:=by
    have:∀i,i<10→(Qwe.getD i []).length≤4:=by decide
    exact this io Hh
   obtain⟨row,am⟩:∃row,row=Qwe.getD io []:=⟨_,rfl⟩
   rw[←am]at tK Hc qE
   have cP:=hid am
   clear am
   go_wp2_with fail
   go_loopg [26] row.length (fun f x wr=>∃k:Nat,x = .int .i64 k∧k≤row.length∧row.length≤k+f∧Hid (∀j (h:j<row.length),j<k→row[j]≠s)∧W=wr)
   case atStart=>exact⟨0,rfl,by omega,by omega,hid (fun j _ h=>by omega),rfl⟩
   case round=>
    obtain⟨k,rfl,Ht,Hp,hM,rfl⟩:=hrel
    by_cases hklt:k<row.length
    ·have dW:(k:Int)<(row.length:Int):=by omega
     have hc:W.cell? ⟨w.heap.size+io,k,none⟩=some (.string row[k]):=by
      rw[Hc.out.cell k];simp[hklt]
     have ke:=Hc.out.lt
     by_cases he:row[k]=s
     ·have mh:=hid (show s∈(Qgc.getD (9-io) []).map (·.1)from by rw[←QWk io Hh,←cP.out,←he];exact List.getElem_mem hklt)
      rw[he]at hc
      clear he
      go_wp2_with fail
      go_ret
      obtain⟨f,hf⟩:=Q6m mh.out
      exact⟨_,rfl,.inr ⟨9-io,f,by omega,by omega,hf⟩,HB.out⟩
     ·have jk:=Qkk he
      have HE:=hid he
      clear he
      obtain⟨rk,pF⟩:∃rk,rk=row[k]:=⟨_,rfl⟩
      rw[←pF]at hc jk
      have HRK:=hid pF
      clear pF
      go_wp2_with fail
      go_roundg (gk-1)
      case measure=>omega
      case rel=>
       refine⟨k+1,by go_num,by omega,by omega,hid (fun j hj oM=>?_),rfl⟩
       by_cases e:j=k
       ·subst e;exact HE.out
       ·exact hM.out j hj (by omega)
    ·obtain rfl:k=row.length:=by omega
     have mj:=hid (show s ∉ row from fun hm=>by
      obtain⟨j,hj,e⟩:=List.getElem_of_mem hm
      exact hM.out j hj hj e)
     go_wp2_with fail
     go_roundg (go-1)
     case measure=>omega
     case rel=>
      refine⟨io+1,by go_num,by omega,by omega,hid (fun q hq=>?_),rfl⟩
      by_cases e:q=io
      ·subst e;rw[←cP.out];exact mj.out
      ·exact hN.out q (by omega)
  ·obtain rfl:io=10:=by omega
   go_wp2_with fail
   go_ret
   refine⟨_,rfl,.inl ⟨rfl,fun q hq=>Q5m (fun hm=>?_)⟩,HB.out⟩
   have h9:=hN.out (9-q) (by omega)
   rw[QWk (9-q) (by omega),show 9-(9-q)=q from by omega]at h9
   exact h9 hm
abbrev RvT:=Int × Nat × Bool × Bool × Bool
def orQ(f:Bool × Bool × Bool)(x:RvT):RvT:=(x.1,x.2.1,orF f x.2.2)
theorem QFm(f:Bool × Bool × Bool):orF f noF=f:=by obtain⟨a,b,c⟩:=f;simp[orF,noF]
theorem QFp(f:Bool × Bool × Bool):orF noF f=f:=by obtain⟨a,b,c⟩:=f;simp[orF,noF]
theorem Qql(f g h:Bool × Bool × Bool):orF (orF f g) h=orF f (orF g h):=by obtain⟨a,b,c⟩:=f;obtain⟨a',b',c'⟩:=g;obtain⟨x,y,z⟩:=h;simp[orF,Bool.or_assoc]
theorem QXo(r:Option RvT):r.map (orQ noF)=r:=by
 cases r with
 | none=>rfl
 | some x=>obtain⟨a,b,f⟩:=x;simp[orQ,QFp]
theorem QRj(f g:Bool × Bool × Bool)(r:Option RvT):(r.map (orQ g)).map (orQ f)=r.map (orQ (orF f g)):=by
 cases r with
 | none=>rfl
 | some x=>obtain⟨a,b,h⟩:=x;simp[orQ,Qql]
inductive LsR (L:List (Int × ByteArray × Int)) (m d:Nat):Nat→Int→Nat→Option RvT→Prop
 | done (v:Int) (i:Nat):LsR L m d m v i (some (v,i,noF))
 | bad {t:Nat} {v:Int} {i:Nat}:t<m→Rd L (.loop t v) d i none→LsR L m d t v i none
 | next {t:Nat} {v:Int} {i:Nat} {q:RvT} {r:Option RvT}:t<m→Rd L (.loop t v) d i (some q)→LsR L m d (t+1) q.1 q.2.1 r→LsR L m d t v i (r.map (orQ q.2.2))
section
variable{L:List (Int × ByteArray × Int)}{m d:Nat}
theorem Qxf{i t:Nat}(h:Rd L (.lvl t) d i none):∀k,Rd L (.lvl (t+k)) d i none
 | 0=>h
 | k+1=>QKe (Qxf h k)
theorem QQq{t:Nat}{v:Int}{j:Nat}{r:Option RvT}(h:LsR L m d t v j r):∀{i:Nat} {f:Bool × Bool × Bool},Rd L (.lvl t) d i (some (v,j,f))→Rd L (.lvl m) d i (r.map (orQ f)):=by
 induction h with
 | done v j=>
  intro i f hq
  show Rd L (.lvl m) d i (some (v,j,orF f noF))
  rw[QFm];exact hq
 | @bad t v j ht hl=>
  intro i f hq
  have h1:=QVk hq hl
  have h2:=Qxf h1 (m-(t+1))
  rw[show t+1+(m-(t+1))=m from by omega]at h2
  exact h2
 | @next t v j q r ht hl hr ih=>
  intro i f hq
  have h1:=QVk hq hl
  have h2:=ih h1
  rw[QRj]
  exact h2
def NoR(L:List (Int × ByteArray × Int))(q i:Nat):Prop:=∀t,t<q→Qlc t (Qya L i)=none
theorem Q9j(k:Nat)(qG:∀d i x,Rd L (.lvl k) d i (some x)→NoR L k x.2.1):∀(n:Nat) (v:Int) (d j:Nat) (z:RvT),evT L n (.loop k v) d j=some (some z)→NoR L k j→NoR L (k+1) z.2.1:=by
 intro n
 induction n with
 | zero=>intro v d j z h;simp[evT]at h
 | succ n ih=>
  intro v d j z h hj
  rw[evT]at h
  cases hr:Qlc k (Qya L j)with
  | none=>
   rw[hr]at h
   have e:(v,j,noF)=z:=Option.some.inj (Option.some.inj h)
   subst e
   intro t ht
   by_cases e:t=k
   ·subst e;exact hr
   ·exact hj t (by omega)
  | some f=>
   rw[hr]at h
   obtain⟨q,hq,e⟩:=Option.bind_eq_some_iff.1 h
   cases q with
   | none=>cases e
   | some q=>
    obtain⟨q2,jl,e2⟩:=Option.map_eq_some_iff.1 e
    cases q2 with
    | none=>cases e2
    | some q2=>
     have e3:=Option.some.inj e2
     rw[←e3]
     have h9:=ih _ _ _ q2 jl (qG _ _ _ ⟨n,hq⟩)
     exact h9
theorem Qwf:∀(k:Nat) (d i:Nat) (x:RvT),Rd L (.lvl k) d i (some x)→NoR L k x.2.1
 | 0,_,_,_,_=>fun t h=>by omega
 | k+1,d,i,x,h=>by
  obtain⟨n,h⟩:=h
  cases n with
  | zero=>simp[evT]at h
  | succ n=>
   rw[evT]at h
   obtain⟨q,hq,e⟩:=Option.bind_eq_some_iff.1 h
   cases q with
   | none=>cases e
   | some q=>
    obtain⟨q2,jl,e2⟩:=Option.map_eq_some_iff.1 e
    cases q2 with
    | none=>cases e2
    | some q2=>
     have e3:=Option.some.inj e2
     rw[←e3]
     have h9:=Q9j k (Qwf k) n _ _ _ q2 jl (Qwf k d i q ⟨n,hq⟩)
     exact h9
theorem Qum{q i:Nat}{v:Int}{r:Option RvT}(hn:NoR L q i)(hq:q≤m)(h:LsR L m d q v i r):∀k,k≤q→LsR L m d (q-k) v i r
 | 0,_=>h
 | k+1,hk=>by
  have h1:=Qum hn hq h k (by omega)
  have h2:=LsR.next (L:=L) (m:=m) (d:=d) (t:=q-(k+1)) (v:=v) (i:=i) (q:=(v,i,noF)) (r:=r) (by omega) (QLd (hn _ (by omega))) (by rw[show q-(k+1)+1=q-k from by omega];exact h1)
  rw[QXo]at h2
  exact h2
theorem QUh{q i:Nat}{v:Int}{r:Option RvT}(hn:NoR L q i)(hq:q≤m)(h:LsR L m d q v i r):LsR L m d 0 v i r:=by
 have:=Qum hn hq h q (Nat.le_refl _)
 rwa [Nat.sub_self]at this
theorem QQi{q i:Nat}{v:Int}{r:Option RvT}(hn:NoR L q i)(hq:q≤m)(h:LsR L m d 0 v i r):∀k,k≤q→LsR L m d k v i r
 | 0,_=>h
 | k+1,hk=>by
  have h1:=QQi hn hq h k (by omega)
  have he:=QLd (L:=L) (d:=d) (v:=v) (hn k (by omega))
  generalize hk':k=k' at h1
  cases h1 with
  | done=>omega
  | bad _ hb=>subst hk';exact absurd (Rd.det hb he) (by simp)
  | next _ hb hr=>
   subst hk'
   have e:=Option.some.inj (Rd.det hb he)
   subst e
   rw[QXo]
   exact hr
theorem Qzp{q i f:Nat}{v:Int}{y:RvT}{r:Option RvT}(hq:q<m)(hr:Qlc q (Qya L i)=some f)(hn:NoR L q i)(hy:Rd L (.lvl q) d (i+1) (some y))
 (h:LsR L m d 0 (Q4b f v (if Qib f y.1=true then 1 else y.1)) y.2.1 r):LsR L m d 0 v i (r.map (orQ (orF y.2.2 (false,false,Qib f y.1)))):=by
 have h1:=QQi (Qwf q d (i+1) y hy) (Nat.le_of_lt hq) h q (Nat.le_refl _)
 refine QUh hn (Nat.le_of_lt hq) ?_
 generalize hv':Q4b f v (if Qib f y.1=true then 1 else y.1)=v' at h1
 generalize hj:y.2.1=j at h1
 cases h1 with
 | done=>omega
 | bad _ hb=>
  subst hv' hj
  have h2:=Q8h hr hy hb
  exact LsR.bad hq h2
 | @next t _ _ z r _ hb pH=>
  subst hv' hj
  have h2:=Q8h hr hy hb
  rw[QRj]
  exact LsR.next hq h2 pH
theorem QOq{q i f:Nat}{v:Int}(hq:q<m)(hr:Qlc q (Qya L i)=some f)(hn:NoR L q i)(hy:Rd L (.lvl q) d (i+1) none):LsR L m d 0 v i none:=
 QUh hn (Nat.le_of_lt hq) (LsR.bad hq (QNf hr hy))
theorem QPq{i:Nat}{v:Int}(hn:NoR L m i):LsR L m d 0 v i (some (v,i,noF)):=QUh hn (Nat.le_refl _) (LsR.done v i)
end
theorem Qxh{s:ByteArray}{p q f g:Nat}(h1:Qlc p s=some f)(h2:Qlc q s=some g)(hp:p<10)(hq:q<10):p=q:=by
 have hm:∀{q f:Nat},Qlc q s=some f→∃x∈Qgc.getD q [],x.1=s:=by
  intro q f h
  unfold Qlc at h
  obtain⟨x,hx,_⟩:=Option.map_eq_some_iff.1 h
  have:=List.find?_some hx
  simp only[decide_eq_true_eq]at this
  exact⟨x,List.mem_of_find?_eq_some hx,this⟩
 have hd:((List.range 10).all fun p=>(List.range 10).all fun q=>(Qgc.getD p []).all fun x=>(Qgc.getD q []).all fun y=>!(decide (x.1=y.1)) || decide (p=q))=true:=by decide
 obtain⟨x,hx,e1⟩:=hm h1
 obtain⟨y,hy,e2⟩:=hm h2
 have h3:=List.all_eq_true.1 (List.all_eq_true.1 (List.all_eq_true.1 (List.all_eq_true.1 hd p (List.mem_range.2 hp)) q (List.mem_range.2 hq)) x hx) y hy
 rw[e1,e2]at h3
 simpa using h3
def QBc(p:Nat)(L:List (Int × ByteArray × Int))(W:Wh)(d i:Nat)(dp gr dv:Bool)(w:World)(e:Ending)(w':World):Prop:=
 ∃(r:Option RvT) (v:Int),Rd L W d i r∧e = .returned (.int .u32 v)∧0≤v∧v≤4294967295∧Qaa (fun x=>x=p) w w'∧match r with
  | none=>∃j dp' gr' dv',QMa w' p L j true dp' gr' dv'
  | some q=>(q.2.2.2.2=false→v=q.1)∧QMa w' p L q.2.1 false (dp || q.2.2.1) (gr || q.2.2.2.1) (dv || q.2.2.2.2)
def OC(p:Nat)(L:List (Int × ByteArray × Int))(i:Nat):Prop:=∀(w:World) (d:Nat) (dp gr dv:Bool),d≤i→QMa w p L i false dp gr dv→
 Calls Tryz.prog 153 #[.pointer (some ⟨p,0,none⟩),.int .i64 (d:Int)] w (QBc p L .opnd d i dp gr dv w)
def WC(p:Nat)(L:List (Int × ByteArray × Int))(i:Nat):Prop:=∀(w:World) (d:Nat) (dp gr dv:Bool),d≤i→QMa w p L i false dp gr dv→
 Calls Tryz.prog 157 #[.pointer (some ⟨p,0,none⟩),.int .i64 (d:Int)] w (QBc p L .whole d i dp gr dv w)
def RC(p:Nat)(L:List (Int × ByteArray × Int))(i:Nat):Prop:=∀(m:Nat) (w:World) (d:Nat) (dp gr dv:Bool),m≤10→d≤i→QMa w p L i false dp gr dv→
 Calls Tryz.prog 163 #[.pointer (some ⟨p,0,none⟩),.int .i64 (11-(m:Int)),.int .i64 (d:Int)] w (QBc p L (.lvl m) d i dp gr dv w)
theorem Qto{L:List (Int × ByteArray × Int)}{W:Wh}{d i:Nat}{q:RvT}(h:Rd L W d i (some q))(hk:okW W)(hl:QRo W=false):i<q.2.1:=by
 obtain⟨r,hr,h2⟩:=QXf L _ W d i hk (Nat.le_refl _)
 have e:=Rd.det h ⟨_,hr⟩
 exact(h2 q e.symm).2 hl
theorem QIp{w1:World}{p:Nat}{L:List (Int × ByteArray × Int)}{i:Nat}{dp gr dv:Bool}(h:QMa w1 p L i false dp gr dv)(hi:i+1≤L.length)(n m:Nat)(x y:Bool) :
 QMa (((((w1.drewN n).setCell ⟨p,3,none⟩ (.bool x)).drewN m).setCell ⟨p,4,none⟩ (.bool y)).setCell ⟨p,1,none⟩ (.int .i64 ((i:Int)+1))) p L (i+1) false x y dv∧
  Qaa (fun b=>b=p) w1 (((((w1.drewN n).setCell ⟨p,3,none⟩ (.bool x)).drewN m).setCell ⟨p,4,none⟩ (.bool y)).setCell ⟨p,1,none⟩ (.int .i64 ((i:Int)+1))):=by
 obtain⟨a1,b1⟩:=(h.keeps (Qda w1 n)).put 3 (.bool x) (i':=i) (syn':=false) (dp':=x) (gr':=gr) (dv':=dv) (by omega) (fun _=>rfl)
 obtain⟨a2,b2⟩:=(a1.keeps (Qda _ m)).put 4 (.bool y) (i':=i) (syn':=false) (dp':=x) (gr':=y) (dv':=dv) (by omega) (fun _=>rfl)
 obtain⟨a3,b3⟩:=a2.next hi
 refine⟨a3,?_⟩
 have k1:=((Qda w1 n).mono (S:=fun b=>b=p) (fun _ _ e=>e.elim)).trans b1 (fun _ _ e=>e)
 have k2:=(k1.trans ((Qda _ m).mono (S:=fun b=>b=p) (fun _ _ e=>e.elim)) (fun _ _ e=>e)).trans b2 (fun _ _ e=>e)
 exact k2.trans b3 (fun _ _ e=>e)
theorem Q5d{w w1:World}{p:Nat}{L:List (Int × ByteArray × Int)}{i d:Nat}{dp gr dv:Bool}{x:Int}(h:QMa w1 p L i false dp gr dv)(k:Qaa (fun b=>b=p) w w1)(hi:i+1≤L.length)(gM:Rd L .opnd d i (some (x % 4294967296,i+1,decide (8<d),decide (x<0) || decide (4294967295<x),false)))(n m:Nat)(X Y:Bool)(hX:X=(dp || decide (8<d)))(hY:Y=(gr || (decide (x<0) || decide (4294967295<x)))) :
 QBc p L .opnd d i dp gr dv w (.returned (.int .u32 (x % 4294967296))) (((((w1.drewN n).setCell ⟨p,3,none⟩ (.bool X)).drewN m).setCell ⟨p,4,none⟩ (.bool Y)).setCell ⟨p,1,none⟩ (.int .i64 ((i:Int)+1))):=by
 obtain⟨a,b⟩:=QIp h hi n m X Y
 refine⟨_,_,gM,rfl,by omega,by omega,k.trans b (fun _ _ e=>e),fun _=>rfl,?_⟩
 rw[Bool.or_false,←hX,←hY]
 exact a
set_option maxRecDepth 100000 in
theorem QUj(p:Nat)(L:List (Int × ByteArray × Int))(i:Nat)(w:World)(d:Nat)(dp gr dv:Bool)(hd:d≤i)(h:QMa w p L i false dp gr dv)(hu:unB (Qya L i)=false)(hs:Qya L i≠⟨#[40]⟩) :
 Calls Tryz.prog 153 #[.pointer (some ⟨p,0,none⟩),.int .i64 (d:Int)] w (QBc p L .opnd d i dp gr dv w):=by
 have Hk:=hid (QIe p L i false dp gr dv w h)
 have n40:((Qya L i).toList == [40])=false:=by rw[beq_eq_false_iff_ne];intro e;exact hs (Qic e)
 have n45:((Qya L i).toList == [45])=false:=by rw[beq_eq_false_iff_ne];intro e;rw[Qic (l:=[45]) e]at hu;cases hu
 have n126:((Qya L i).toList == [126])=false:=by rw[beq_eq_false_iff_ne];intro e;rw[Qic (l:=[126]) e]at hu;cases hu
 have n33:((Qya L i).toList == [33])=false:=by rw[beq_eq_false_iff_ne];intro e;rw[Qic (l:=[33]) e]at hu;cases hu
 obtain⟨_,_,_,_,_,_,_,_,_,_,_,ah,aS⟩:=h.cells
 have HS:=hid hs
 have HU:=hid hu
 unfold Qtc at Hk
 have oo:(d:Int)≤1000000000:=by omega
 clear hs hu h
 obtain⟨t,ht⟩:∃t,t=Qya L i:=⟨_,rfl⟩
 rw[←ht]at Hk n40 n45 n126 n33
 clear ht
 go_enter Tryz.func153,Tryz.ntmps153
 go_wp2_with fail
 refine(by exact Hk.out:Calls _ _ _ _ _).mono ?_
 rintro e w1 ⟨rfl,gi,Ht⟩
 have Gj:=hid (Ht.mono (S:=fun b=>b=p) (fun _ _ e=>e.elim))
 have GH:=hid gi
 obtain⟨c1,c2,c3,c4,c5,f1,f2,f3,f4,f5,cl,_,_⟩:=gi.cells
 obtain⟨lv,hH,⟨a,cap,rfl,gn,mP⟩,_⟩:=gi
 have c0:=hH.cell 0
 have gA:=hid mP
 clear hH mP gn Ht
 have Hj:(∀t,L[i]? = some t→t.1≠2)→Rd L .opnd d i none:=fun hb=>Q9h HU.out (Q5f HS.out hb)
 have au:=hid Hj
 clear Hj
 by_cases Hh:i<L.length
 ·have Mv:(i:Int)<(L.length:Int):=by omega
  have Kn:¬((L.length:Int)≤(i:Int)):=by omega
  obtain⟨gt,ot,rfl,_,hc⟩:=gA.out (by omega)
  obtain⟨d0,d1,d2⟩:=hc i Hh
  have Gg:=hid (show L[i]? = some L[i]from List.getElem?_eq_getElem Hh)
  by_cases hk:L[i].1=2
  ·have ki:=hid (Q9h HU.out (Q9i (d:=d) HS.out Gg.out hk))
   rw[hk]at d0
   clear hc d1 hk au Gg
   generalize L[i].2.2=x at *
   cases dp with
   | true=>
    cases gr with
    | true=>
     go_wp2_with fail
     go_quiet (fail)
     go_wp2_with fail
     go_quiet (fail)
     go_wp2_with fail
     go_ret
     exact Q5d GH.out Gj.out (by omega) ki.out _ _ true true (by rfl) (by rfl)
    | false=>
     by_cases mH:x<0
     ·go_wp2_with fail
      go_quiet (fail)
      go_wp2_with fail
      go_quiet (fail)
      go_wp2_with fail
      go_ret
      exact Q5d GH.out Gj.out (by omega) ki.out _ _ true true (by rfl) (by rw[decide_eq_true mH];rfl)
     ·by_cases Kr:4294967295<x
      ·go_wp2_with fail
       go_quiet (fail)
       go_wp2_with fail
       go_quiet (fail)
       go_wp2_with fail
       go_ret
       exact Q5d GH.out Gj.out (by omega) ki.out _ _ true true (by rfl) (by rw[decide_eq_true Kr];simp)
      ·go_wp2_with fail
       go_quiet (fail)
       go_wp2_with fail
       go_quiet (fail)
       go_wp2_with fail
       go_ret
       have Ge:=fun a b=>Q5d GH.out Gj.out (by omega) ki.out a b true (decide (x<0) || decide ((4294967295:Int)<x)) (by rfl) (by rfl)
       rw[show x % 4294967296=x from by omega]at Ge
       exact Ge _ _
   | false=>
    cases gr with
    | true=>
     go_wp2_with fail
     go_quiet (fail)
     go_wp2_with fail
     go_quiet (fail)
     go_wp2_with fail
     go_ret
     exact Q5d GH.out Gj.out (by omega) ki.out _ _ (decide ((8:Int)<(d:Int))) true (by rw[Bool.false_or];exact decide_eq_decide.2 (by omega)) (by rfl)
    | false=>
     by_cases mH:x<0
     ·go_wp2_with fail
      go_quiet (fail)
      go_wp2_with fail
      go_quiet (fail)
      go_wp2_with fail
      go_ret
      exact Q5d GH.out Gj.out (by omega) ki.out _ _ (decide ((8:Int)<(d:Int))) true (by rw[Bool.false_or];exact decide_eq_decide.2 (by omega)) (by rw[decide_eq_true mH];rfl)
     ·by_cases Kr:4294967295<x
      ·go_wp2_with fail
       go_quiet (fail)
       go_wp2_with fail
       go_quiet (fail)
       go_wp2_with fail
       go_ret
       exact Q5d GH.out Gj.out (by omega) ki.out _ _ (decide ((8:Int)<(d:Int))) true (by rw[Bool.false_or];exact decide_eq_decide.2 (by omega)) (by rw[decide_eq_true Kr];simp)
      ·go_wp2_with fail
       go_quiet (fail)
       go_wp2_with fail
       go_quiet (fail)
       go_wp2_with fail
       go_ret
       have Ge:=fun a b=>Q5d GH.out Gj.out (by omega) ki.out a b (decide ((8:Int)<(d:Int))) (decide (x<0) || decide ((4294967295:Int)<x)) (by rw[Bool.false_or];exact decide_eq_decide.2 (by omega)) (by rfl)
       rw[show x % 4294967296=x from by omega]at Ge
       exact Ge _ _
  ·have kR:(L[i].1 != 2)=true:=by simpa using hk
   have HN:=hid (au.out (fun t e=>by rw[Gg.out]at e;cases e;exact hk))
   clear hc d1 d2 hk Gg au
   generalize L[i].1=kd at *
   go_wp2_with fail
   go_quiet (fail)
   go_wp2_with fail
   go_ret
   obtain⟨h2,h3⟩:=(GH.out.keeps (Qda _ _)).put 2 (.bool true) (i':=i) (syn':=true) (dp':=dp) (gr':=gr) (dv':=dv) (by omega) (fun _=>rfl)
   exact⟨none,0,HN.out,rfl,by omega,by omega,(Gj.out.trans ((Qda _ _).mono (S:=fun b=>b=p) (fun _ _ e=>e.elim)) (fun _ _ e=>e)).trans h3 (fun _ _ e=>e),_,_,_,_,h2⟩
 ·have Mv:¬(i:Int)<(L.length:Int):=by omega
  have Kn:(L.length:Int)≤(i:Int):=by omega
  have HN:=hid (au.out (fun t e=>by rw[List.getElem?_eq_none (by omega)]at e;cases e))
  clear au
  go_wp2_with fail
  go_quiet (fail)
  go_wp2_with fail
  go_ret
  obtain⟨h2,h3⟩:=(GH.out.keeps (Qda _ _)).put 2 (.bool true) (i':=i) (syn':=true) (dp':=dp) (gr':=gr) (dv':=dv) (by omega) (fun _=>rfl)
  exact⟨none,0,HN.out,rfl,by omega,by omega,(Gj.out.trans ((Qda _ _).mono (S:=fun b=>b=p) (fun _ _ e=>e.elim)) (fun _ _ e=>e)).trans h3 (fun _ _ e=>e),_,_,_,_,h2⟩
theorem Qer{p:Nat}{L:List (Int × ByteArray × Int)}{i d:Nat}{dp gr dv:Bool}{w w1 w2:World}{v:Int}(hu:unB (Qya L i)=true)(k:Qaa (fun x=>x=p) w w1)(h:QBc p L .opnd d (i+1) dp gr dv w1 (.returned (.int .u32 v)) w2) :
 QBc p L .opnd d i dp gr dv w (.returned (.int .u32 (unT (Qya L i) v))) w2:=by
 obtain⟨r,u,hr,e,h0,h1,kk,hm⟩:=h
 obtain rfl:v=u:=by injection e with e;injection e
 obtain⟨b0,b1⟩:=Qnj (Qya L i) v h0 h1
 refine⟨_,_,Qdq hu hr,rfl,b0,b1,k.trans kk (fun _ _ e=>e),?_⟩
 cases r with
 | none=>exact hm
 | some q=>exact⟨fun e=>by rw[hm.1 e],hm.2⟩
theorem QBc.val{p:Nat}{L:List (Int × ByteArray × Int)}{W:Wh}{i d:Nat}{dp gr dv:Bool}{w w':World}{e:Ending}(h:QBc p L W d i dp gr dv w e w'):∃v:Int,e = .returned (.int .u32 v)∧0≤v∧v≤4294967295∧Qaa (fun x=>x=p) w w':=by
 obtain⟨r,u,_,e,h0,h1,kk,_⟩:=h
 exact⟨u,e,h0,h1,kk⟩
set_option maxRecDepth 100000 in
theorem Qsl(p:Nat)(L:List (Int × ByteArray × Int))(i:Nat)(hO:i+1≤L.length→OC p L (i+1))(w:World)(d:Nat)(dp gr dv:Bool)(hd:d≤i)(h:QMa w p L i false dp gr dv)(hu:unB (Qya L i)=true) :
 Calls Tryz.prog 153 #[.pointer (some ⟨p,0,none⟩),.int .i64 (d:Int)] w (QBc p L .opnd d i dp gr dv w):=by
 have Hk:=QIe p L i false dp gr dv w h
 unfold Qtc at Hk
 have hn:i+1≤L.length:=Qad (by intro e;rw[e]at hu;cases hu)
 have HO:=hid (hO hn)
 obtain⟨_,_,_,_,_,_,_,_,_,_,_,ah,aS⟩:=h.cells
 have HU:=hid (fun(w1 w2:World) (v:Int) (k:Qaa (fun x=>x=p) w w1) (ho:QBc p L .opnd d (i+1) dp gr dv w1 (.returned (.int .u32 v)) w2)=>Qer (w:=w) hu k ho)
 have oo:(d:Int)≤1000000000:=by omega
 clear hO h
 rcases Qmi hu with hs|hs|hs
 ·rw[hs]at Hk HU
  have kA:=hid Hk
  clear Hk hs hu
  go_enter Tryz.func153,Tryz.ntmps153
  go_wp2_with fail
  refine(by exact kA.out:Calls _ _ _ _ _).mono ?_
  rintro e w1 ⟨rfl,gi,Ht⟩
  have Gj:=hid (Ht.mono (S:=fun b=>b=p) (fun _ _ e=>e.elim))
  have GH:=hid gi
  obtain⟨c1,_,_,_,_,f1,_,_,_,_,cl,_,_⟩:=gi.cells
  clear gi Ht
  go_wp2_with fail
  refine(by exact HO.out _ d dp gr dv (by omega) (GH.out.next hn).1:Calls _ _ _ _ _).mono ?_
  rintro e w2 ho
  obtain⟨v,rfl,v0,v1,_⟩:=ho.val
  have cM:=hid ho
  clear ho
  go_wp2_with fail
  go_ret
  exact HU.out _ _ _ (Gj.out.trans (GH.out.next hn).2 (fun _ _ e=>e)) cM.out
 ·rw[hs]at Hk HU
  have kA:=hid Hk
  clear Hk hs hu
  go_enter Tryz.func153,Tryz.ntmps153
  go_wp2_with fail
  refine(by exact kA.out:Calls _ _ _ _ _).mono ?_
  rintro e w1 ⟨rfl,gi,Ht⟩
  have Gj:=hid (Ht.mono (S:=fun b=>b=p) (fun _ _ e=>e.elim))
  have GH:=hid gi
  obtain⟨c1,_,_,_,_,f1,_,_,_,_,cl,_,_⟩:=gi.cells
  clear gi Ht
  go_wp2_with fail
  refine(by exact HO.out _ d dp gr dv (by omega) (GH.out.next hn).1:Calls _ _ _ _ _).mono ?_
  rintro e w2 ho
  obtain⟨v,rfl,v0,v1,_⟩:=ho.val
  have cM:=hid ho
  clear ho
  go_wp2_with fail
  go_ret
  have Hg:=HU.out _ _ _ (Gj.out.trans (GH.out.next hn).2 (fun _ _ e=>e)) cM.out
  rw[Qok v v0 v1]
  exact Hg
 ·rw[hs]at Hk HU
  have kA:=hid Hk
  clear Hk hs hu
  go_enter Tryz.func153,Tryz.ntmps153
  go_wp2_with fail
  refine(by exact kA.out:Calls _ _ _ _ _).mono ?_
  rintro e w1 ⟨rfl,gi,Ht⟩
  have Gj:=hid (Ht.mono (S:=fun b=>b=p) (fun _ _ e=>e.elim))
  have GH:=hid gi
  obtain⟨c1,_,_,_,_,f1,_,_,_,_,cl,_,_⟩:=gi.cells
  clear gi Ht
  go_wp2_with fail
  refine(by exact HO.out _ d dp gr dv (by omega) (GH.out.next hn).1:Calls _ _ _ _ _).mono ?_
  rintro e w2 ho
  obtain⟨v,rfl,v0,v1,_⟩:=ho.val
  have cM:=hid ho
  clear ho
  go_wp2_with fail
  refine(Qdc _ _).mono ?_
  rintro e w' ⟨rfl,rfl⟩
  go_wp2_with fail
  go_ret
  exact HU.out _ _ _ (Gj.out.trans (GH.out.next hn).2 (fun _ _ e=>e)) cM.out
theorem QLp{p:Nat}{L:List (Int × ByteArray × Int)}{i d:Nat}{dp gr dv:Bool}{w w1 w2 w3:World}{v:Int}(hs:Qya L i=⟨#[40]⟩)(k:Qaa (fun x=>x=p) w w1)(h:QBc p L .whole (d+1) (i+1) dp gr dv w1 (.returned (.int .u32 v)) w2)
 (hk:Qaa (fun x=>x=p) w2 w3) (hb:(∃j dp' gr' dv',QMa w2 p L j true dp' gr' dv')→∃j dp' gr' dv',QMa w3 p L j true dp' gr' dv')
 (ht:∀j dp' gr' dv',QMa w2 p L j false dp' gr' dv'→(Qya L j=⟨#[41]⟩→QMa w3 p L (j+1) false dp' gr' dv')∧(Qya L j≠⟨#[41]⟩→QMa w3 p L j true dp' gr' dv')) :
 QBc p L .opnd d i dp gr dv w (.returned (.int .u32 v)) w3:=by
 have hu:unB (Qya L i)=false:=by rw[hs];decide
 obtain⟨r,u,hr,e,h0,h1,kk,hm⟩:=h
 obtain rfl:v=u:=by injection e with e;injection e
 have kK:=(k.trans kk (fun _ _ e=>e)).trans hk (fun _ _ e=>e)
 cases r with
 | none=>exact⟨none,v,Q9h hu (QIg hs hr),rfl,h0,h1,kK,hb hm⟩
 | some q=>
  obtain⟨hv,ha⟩:=hm
  obtain⟨t1,t2⟩:=ht _ _ _ _ ha
  by_cases hc:Qya L q.2.1=⟨#[41]⟩
  ·exact⟨some (q.1,q.2.1+1,q.2.2),v,Q9h hu (Q0m hs hr hc),rfl,h0,h1,kK,hv,t1 hc⟩
  ·exact⟨none,v,Q9h hu (Qwh hs hr hc),rfl,h0,h1,kK,_,_,_,_,t2 hc⟩
set_option maxRecDepth 100000 in
theorem QVj(p:Nat)(L:List (Int × ByteArray × Int))(i:Nat)(hW:i+1≤L.length→WC p L (i+1))(w:World)(d:Nat)(dp gr dv:Bool)(hd:d≤i)(h:QMa w p L i false dp gr dv)(hs:Qya L i=⟨#[40]⟩) :
 Calls Tryz.prog 153 #[.pointer (some ⟨p,0,none⟩),.int .i64 (d:Int)] w (QBc p L .opnd d i dp gr dv w):=by
 have Hk:=QIe p L i false dp gr dv w h
 unfold Qtc at Hk
 have hn:i+1≤L.length:=Qad (by rw[hs];intro e;cases e)
 have HW:=hid (hW hn)
 obtain⟨_,_,_,_,_,_,_,_,_,_,_,ah,aS⟩:=h.cells
 have HS:=hid hs
 have oo:(d:Int)≤1000000000:=by omega
 rw[hs]at Hk
 have kA:=hid Hk
 clear hW h hs Hk
 go_enter Tryz.func153,Tryz.ntmps153
 go_wp2_with fail
 refine(by exact kA.out:Calls _ _ _ _ _).mono ?_
 rintro e w1 ⟨rfl,gi,Ht⟩
 have Gj:=hid (Ht.mono (S:=fun b=>b=p) (fun _ _ e=>e.elim))
 have GH:=hid gi
 obtain⟨c1,_,_,_,_,f1,_,_,_,_,cl,_,_⟩:=gi.cells
 clear gi Ht
 go_wp2_with fail
 refine(by exact HW.out _ (d+1) dp gr dv (by omega) (GH.out.next hn).1:Calls _ _ _ _ _).mono ?_
 rintro e w2 ho
 obtain⟨v,rfl,v0,v1,_⟩:=ho.val
 obtain⟨j,syn',dp',gr',dv',ha⟩:∃j syn' dp' gr' dv',QMa w2 p L j syn' dp' gr' dv':=by
  obtain⟨r,_,_,_,_,_,_,hm⟩:=ho
  cases r with
  | none=>obtain⟨j,a,b,c,h⟩:=hm;exact⟨j,true,a,b,c,h⟩
  | some q=>exact⟨_,_,_,_,_,hm.2⟩
 have cM:=hid ho
 have HA:=hid ha
 clear ho ha
 go_wp2_with fail
 refine(QNm p L j syn' dp' gr' dv' ⟨#[41]⟩ w2 HA.out (by intro e;cases e)).mono ?_
 rintro e w3 ⟨rfl,Hd,t1,t2⟩
 have gh:=hid Hd
 have T:=hid (And.intro t1 t2)
 clear Hd t1 t2
 go_wp2_with fail
 go_ret
 have same:∀j2 syn2 dp2 gr2 dv2,QMa w2 p L j2 syn2 dp2 gr2 dv2→j=j2∧syn'=syn2∧dp'=dp2∧gr'=gr2∧dv'=dv2:=by
  intro j2 syn2 dp2 gr2 dv2 h2
  obtain⟨a1,a2,a3,a4,a5,_⟩:=HA.out.cells
  obtain⟨b1,b2,b3,b4,b5,_⟩:=h2.cells
  rw[a1]at b1;rw[a2]at b2;rw[a3]at b3;rw[a4]at b4;rw[a5]at b5
  injection b1 with b1;injection b1 with _ b1
  injection b2 with b2;injection b2 with b2
  injection b3 with b3;injection b3 with b3
  injection b4 with b4;injection b4 with b4
  injection b5 with b5;injection b5 with b5
  exact⟨by omega,b2,b3,b4,b5⟩
 refine QLp HS.out (Gj.out.trans (GH.out.next hn).2 (fun _ _ e=>e)) cM.out gh.out ?_ ?_
 ·rintro ⟨j2,a,b,c,h2⟩
  obtain⟨_,rfl,_⟩:=same _ _ _ _ _ h2
  by_cases hc:Qya L j=⟨#[41]⟩
  ·exact⟨_,_,_,_,T.out.1 hc⟩
  ·exact⟨_,_,_,_,T.out.2 hc⟩
 ·intro j2 a b c h2
  obtain⟨rfl,rfl,rfl,rfl,rfl⟩:=same _ _ _ _ _ h2
  exact T.out
theorem Qth(p:Nat)(L:List (Int × ByteArray × Int))(i:Nat)(hO:i+1≤L.length→OC p L (i+1))(hW:i+1≤L.length→WC p L (i+1)):OC p L i:=by
 intro w d dp gr dv hd h
 cases hu:unB (Qya L i)with
 | true=>exact Qsl p L i hO w d dp gr dv hd h hu
 | false=>
  by_cases hs:Qya L i=⟨#[40]⟩
  ·exact QVj p L i hW w d dp gr dv hd h hs
  ·exact QUj p L i w d dp gr dv hd h hu hs
def QEp:Nat→ByteArray
 | 1=>⟨#[42]⟩|2=>⟨#[47]⟩|3=>⟨#[37]⟩|4=>⟨#[43]⟩|5=>⟨#[45]⟩|6=>⟨#[60,60]⟩|7=>⟨#[62,62]⟩|8=>⟨#[60]⟩|9=>⟨#[62]⟩|10=>⟨#[60,61]⟩|11=>⟨#[62,61]⟩|12=>⟨#[61,61]⟩|13=>⟨#[33,61]⟩|14=>⟨#[38]⟩|15=>⟨#[94]⟩|16=>⟨#[124]⟩|17=>⟨#[38,38]⟩|18=>⟨#[124,124]⟩
 | _=>⟨#[]⟩
theorem Qll:∀k,k<10→∀p∈Qgc.getD k [],p.1=QEp p.2:=by decide
theorem Q4m{k:Nat}(hk:k<10){s:ByteArray}{f:Nat}(h:Qlc k s=some f):s=QEp f:=by
 unfold Qlc at h
 obtain⟨p,hp,e⟩:=Option.map_eq_some_iff.1 h
 have h1:=List.mem_of_find?_eq_some hp
 have h2:=List.find?_some hp
 simp only[decide_eq_true_eq]at h2
 rw[←h2,←e]
 exact Qll k hk p h1
theorem Qoo(p:Nat)(L:List (Int × ByteArray × Int))(i:Nat)(syn dp gr dv:Bool)(f:Nat)(h1:1≤f)(h2:f≤18)(a b:Int)(w:World)(h:QMa w p L i syn dp gr dv)(ha:0≤a)(Hw:a≤4294967295)(hb:0≤b)(Hf:b≤4294967295) :
 Calls Tryz.prog 185 #[.pointer (some ⟨p,0,none⟩),.string (QEp f),.int .u32 a,.int .u32 b] w (Qcb p L i syn dp gr dv f a b w):=by
 match f,h1,h2 with
 | 1,_,_=>exact QTp p L i syn dp gr dv a b w h ha Hw hb Hf
 | 2,_,_=>exact QUp p L i syn dp gr dv a b w h ha Hw hb Hf
 | 3,_,_=>exact QVp p L i syn dp gr dv a b w h ha Hw hb Hf
 | 4,_,_=>exact QWp p L i syn dp gr dv a b w h ha Hw hb Hf
 | 5,_,_=>exact QXp p L i syn dp gr dv a b w h ha Hw hb Hf
 | 6,_,_=>exact QYp p L i syn dp gr dv a b w h ha Hw hb Hf
 | 7,_,_=>exact QZp p L i syn dp gr dv a b w h ha Hw hb Hf
 | 8,_,_=>exact Q0p p L i syn dp gr dv a b w h ha Hw hb Hf
 | 9,_,_=>exact Q1p p L i syn dp gr dv a b w h ha Hw hb Hf
 | 10,_,_=>exact Qfo p L i syn dp gr dv a b w h ha Hw hb Hf
 | 11,_,_=>exact Qgo p L i syn dp gr dv a b w h ha Hw hb Hf
 | 12,_,_=>exact Qho p L i syn dp gr dv a b w h ha Hw hb Hf
 | 13,_,_=>exact Qio p L i syn dp gr dv a b w h ha Hw hb Hf
 | 14,_,_=>exact Qjo p L i syn dp gr dv a b w h ha Hw hb Hf
 | 15,_,_=>exact Qko p L i syn dp gr dv a b w h ha Hw hb Hf
 | 16,_,_=>exact Qlo p L i syn dp gr dv a b w h ha Hw hb Hf
 | 17,_,_=>exact Qmo p L i syn dp gr dv a b w h ha Hw hb Hf
 | 18,_,_=>exact Qno p L i syn dp gr dv a b w h ha Hw hb Hf
 | 0,h,_=>omega
 | _+19,_,h=>omega
def QLl(p:Nat)(L:List (Int × ByteArray × Int))(m d i:Nat)(dp gr dv:Bool)(v:Int)(syn:Bool)(j:Nat)(w:World):Prop:=
 0≤v∧v≤4294967295∧if syn=true then Rd L (.lvl m) d i none∧∃dp' gr' dv',QMa w p L j true dp' gr' dv'
  else ∃(v0:Int) (F:Bool × Bool × Bool),i≤j∧(F.2.2=false→v=v0)∧(∀r,LsR L m d 0 v0 j r→Rd L (.lvl m) d i (r.map (orQ F)))∧QMa w p L j false (dp || F.1) (gr || F.2.1) (dv || F.2.2)
section
variable{p:Nat}{L:List (Int × ByteArray × Int)}{m d i j:Nat}{dp gr dv syn:Bool}{w w':World}{v:Int}
theorem QLl.keeps(h:QLl p L m d i dp gr dv v syn j w)(k:Qaa (fun _=>False) w w'):QLl p L m d i dp gr dv v syn j w':=by
 unfold QLl at h ⊢
 refine⟨h.1,h.2.1,?_⟩
 cases syn with
 | true=>obtain⟨hr,a,b,c,h2⟩:=h.2.2;exact⟨hr,a,b,c,h2.keeps k⟩
 | false=>obtain⟨v0,F,h0,h1,h2,h3⟩:=h.2.2;exact⟨v0,F,h0,h1,h2,h3.keeps k⟩
theorem QLl.prs(h:QLl p L m d i dp gr dv v syn j w):∃dp' gr' dv',QMa w p L j syn dp' gr' dv':=by
 cases syn with
 | true=>exact h.2.2.2
 | false=>obtain⟨v0,F,_,_,_,h3⟩:=h.2.2;exact⟨_,_,_,h3⟩
theorem Q9m{e:Ending}(h:QBc p L .opnd d i dp gr dv w e w'):∃v syn j,e = .returned (.int .u32 v)∧QLl p L m d i dp gr dv v syn j w':=by
 obtain⟨r,v,hr,rfl,h0,h1,_,hm⟩:=h
 cases r with
 | none=>
  obtain⟨j,a,b,c,hj⟩:=hm
  have h2:=Qxf (QHg hr) m
  rw[Nat.zero_add]at h2
  exact⟨v,true,j,rfl,h0,h1,h2,a,b,c,hj⟩
 | some q=>
  have hq:=Qto hr (by trivial) rfl
  refine⟨v,false,q.2.1,rfl,h0,h1,q.1,q.2.2,by omega,hm.1,?_,hm.2⟩
  intro r hl
  exact QQq hl (QHg hr)
theorem Q0k(h:QLl p L m d i dp gr dv v false j w')(k:Qaa (fun x=>x=p) w w')(hn:NoR L m j):QBc p L (.lvl m) d i dp gr dv w (.returned (.int .u32 v)) w':=by
 obtain⟨h0,h1,v0,F,_,hv,hb,ha⟩:=h
 have h2:=hb _ (QPq hn)
 have e:(some (v0,j,noF)).map (orQ F)=some (v0,j,F):=by show some (v0,j,orF F noF)=_;rw[QFm]
 rw[e]at h2
 exact⟨_,v,h2,rfl,h0,h1,k,hv,ha⟩
theorem Qzo(h:QLl p L m d i dp gr dv v true j w')(k:Qaa (fun x=>x=p) w w'):QBc p L (.lvl m) d i dp gr dv w (.returned (.int .u32 v)) w':=by
 obtain⟨h0,h1,hr,a,b,c,ha⟩:=h
 exact⟨none,v,hr,rfl,h0,h1,k,j,a,b,c,ha⟩
theorem QAo{w1 w2 w3:World}{q f j2:Nat}{u:Int}{syn2:Bool}{dp2 gr2 dv2 a' b' c':Bool}(h:QLl p L m d i dp gr dv v false j w)(hq:q<m)(hm:m≤10)(hr:Qlc q (Qya L j)=some f)(hn:NoR L q j)
 (hy:QBc p L (.lvl q) d (j+1) (dp2) (gr2) (dv2) w1 (.returned (.int .u32 u)) w2) (hp:QMa w p L j false dp2 gr2 dv2) (hp3:QMa w2 p L j2 syn2 a' b' c')
 (hz:QMa w3 p L j2 syn2 a' b' (c' || Qib f u)) :
 QLl p L m d i dp gr dv (if Qib f u=true then 0 else Q4b f v u) syn2 j2 w3∧(syn2=false→j<j2):=by
 obtain⟨h0,h1,v0,F,GV,hv,hb,ha⟩:=h
 obtain⟨r,u',gM,e,u0,u1,_,dr⟩:=hy
 obtain rfl:u=u':=by injection e with e;injection e
 have same:∀{wx:World} {j1 j2:Nat} {s1 s2 a1 b1 c1 a2 b2 c2:Bool},QMa wx p L j1 s1 a1 b1 c1→QMa wx p L j2 s2 a2 b2 c2→j1=j2∧s1=s2∧a1=a2∧b1=b2∧c1=c2:=by
  intro wx j1 j2 s1 s2 a1 b1 c1 a2 b2 c2 x1 x2
  obtain⟨a1,a2,a3,a4,a5,_⟩:=x1.cells
  obtain⟨b1,b2,b3,b4,b5,_⟩:=x2.cells
  rw[a1]at b1;rw[a2]at b2;rw[a3]at b3;rw[a4]at b4;rw[a5]at b5
  injection b1 with b1;injection b1 with _ b1
  injection b2 with b2;injection b2 with b2
  injection b3 with b3;injection b3 with b3
  injection b4 with b4;injection b4 with b4
  injection b5 with b5;injection b5 with b5
  exact⟨by omega,b2,b3,b4,b5⟩
 obtain⟨_,_,rfl,rfl,rfl⟩:=same hp ha
 have Hm:0≤(if Qib f u=true then 0 else Q4b f v u)∧(if Qib f u=true then 0 else Q4b f v u)≤4294967295:=by
  split
  ·omega
  ·exact QGa f v u h0 h1 u0 u1
 cases r with
 | none=>
  obtain⟨j3,a,b,c,hj⟩:=dr
  obtain⟨rfl,rfl,rfl,rfl,rfl⟩:=same hp3 hj
  have h2:=hb none (QOq hq hr hn gM)
  exact⟨⟨Hm.1,Hm.2,h2,_,_,_,hz⟩,fun e=>by cases e⟩
 | some y=>
  obtain⟨hu,hj⟩:=dr
  obtain⟨rfl,rfl,rfl,rfl,rfl⟩:=same hp3 hj
  have Hh:=Qto gM (show q≤10 by omega) rfl
  refine⟨⟨Hm.1,Hm.2,Q4b f v0 (if Qib f y.1=true then 1 else y.1),orF F (orF y.2.2 (false,false,Qib f y.1)),by omega,?_,?_,?_⟩,fun _=>by omega⟩
  ·intro hf
   have hf':(F.2.2 || (y.2.2.2.2 || Qib f y.1))=false:=hf
   rw[Bool.or_eq_false_iff,Bool.or_eq_false_iff]at hf'
   rw[hv hf'.1,hu hf'.2.1,hf'.2.2];rfl
  ·intro r hl
   have h2:=hb _ (Qzp hq hr hn gM hl)
   rw[QRj]at h2
   exact h2
  ·have h3:=hz
   have e1:(dp || F.1 || y.2.2.1)=(dp || (orF F (orF y.2.2 (false,false,Qib f y.1))).1):=by show _=(dp || (F.1 || (y.2.2.1 || false)));rw[Bool.or_false,Bool.or_assoc]
   have e2:(gr || F.2.1 || y.2.2.2.1)=(gr || (orF F (orF y.2.2 (false,false,Qib f y.1))).2.1):=by show _=(gr || (F.2.1 || (y.2.2.2.1 || false)));rw[Bool.or_false,Bool.or_assoc]
   have e3:(dv || F.2.2 || y.2.2.2.2 || Qib f u)=(dv || (orF F (orF y.2.2 (false,false,Qib f y.1))).2.2):=by
    show _=(dv || (F.2.2 || (y.2.2.2.2 || Qib f y.1)))
    cases hyd:y.2.2.2.2 with
    | true=>simp
    | false=>rw[hu hyd,Bool.or_false,Bool.false_or,Bool.or_assoc]
   rw[e1,e2,e3]at h3
   exact h3
end
set_option maxRecDepth 100000 in
theorem QYo(p:Nat)(L:List (Int × ByteArray × Int))(i:Nat)(hO:OC p L i)(hR:∀j,i<j→j≤L.length→RC p L j):RC p L i:=by
 intro m w d dp gr dv hm hd h
 have HO:=hid (hO w d dp gr dv hd h)
 have HR:=hid hR
 obtain⟨_,_,_,_,_,_,_,_,_,_,_,ah,aS⟩:=h.cells
 have oo:(d:Int)≤1000000000:=by omega
 have hmI:(m:Int)≤10:=by omega
 have iH:∀q:Int,0≤q→q≤10→IntKind.i64.wrap (10-q+1)=11-q:=fun q h0 h1=>by rw[IntWalk.i64_in _ (by omega)];omega
 have wQ:=hid iH
 clear hO hR h iH
 go_enter Tryz.func163,Tryz.ntmps163
 go_wp2_with fail
 refine(by exact HO.out:Calls _ _ _ _ _).mono ?_
 rintro e w1 G4
 obtain⟨v,syn,j,rfl,pH⟩:=Q9m (m:=m) G4
 have KD:=hid pH
 obtain⟨_,_,_,_,Ht⟩:=G4.val
 have Gj:=hid Ht
 clear G4 pH Ht
 go_wp2_with fail
 go_loopg [7] (L.length+2) (fun f x wr=>∃(v:Int) (syn:Bool) (j:Nat),x = .int .u32 v∧Hid (QLl p L m d i dp gr dv v syn j wr)∧Hid (Qaa (fun b=>b=p) w wr)∧Hid (syn=false→L.length+1≤j+f))
 case atStart=>exact⟨v,syn,j,rfl,KD,Gj,hid (fun _=>by omega)⟩
 case round=>
  clear KD Gj
  obtain⟨v,syn,j,rfl,KD,HK,HF⟩:=hrel
  obtain⟨v0',v1',_⟩:=KD.out
  obtain⟨dp',gr',dv',ha⟩:=KD.out.prs
  obtain⟨c1,c2,_,_,_,f1,_,_,_,_,cl,di,_⟩:=ha.cells
  have HA:=hid ha
  clear ha
  cases syn with
  | true=>
   go_wp2_with fail
   go_ret
   exact Qzo KD.out HK.out
  | false=>
   have hgk:1≤gk:=by have h2:=HF.out rfl;omega
   have Hk:=QIe p L j false dp' gr' dv' wr HA.out
   unfold Qtc at Hk
   obtain⟨t,ht⟩:∃t,t=Qya L j:=⟨_,rfl⟩
   rw[←ht]at Hk
   have HT:=hid ht
   have kA:=hid Hk
   clear ht Hk
   go_wp2_with fail
   refine(by exact kA.out:Calls _ _ _ _ _).mono ?_
   rintro e w2 ⟨rfl,gT,Hp⟩
   go_wp2_with fail
   refine(Q2p t _).mono ?_
   rintro e w3 ⟨R,rfl,pF,gm⟩
   have ib:=Hp.trans (Qaa.of_fresh gm (fun _=>False)) (fun _ _ e=>e)
   have m9:=gT.keeps (Qaa.of_fresh gm (fun _=>False))
   obtain⟨d1,_,_,_,_,g1,_,_,_,_,dl,_,_⟩:=m9.cells
   have cO:=hid (KD.out.keeps ib)
   have gh:=hid (HK.out.trans (ib.mono (S:=fun b=>b=p) (fun _ _ e=>e.elim)) (fun _ _ e=>e))
   have um:=hid m9
   clear gT Hp gm ib m9
   rcases pF with⟨rfl,mj⟩|⟨q,f,hq,rfl,hr⟩
   ·have j9:=hid mj
    clear mj
    go_wp2_with fail
    go_ret
    exact Q0k cO.out gh.out (fun t ht=>by rw[←HT.out];exact j9.out t (by omega))
   ·have my:((10-(q:Int)) == 0)=false:=by rw[beq_eq_false_iff_ne];omega
    have tA:(q:Int)≤9:=by omega
    have cP:=hid hr
    clear hr
    by_cases hqm:q<m
    ·have Hh:¬(10-(q:Int)<11-(m:Int)):=by omega
     have kp:11-(m:Int)≤10-(q:Int):=by omega
     have hn:j+1≤L.length:=by
      refine Qad (L:=L) ?_
      intro e
      have h9:=cP.out
      rw[HT.out,e,Qaf q hq]at h9
      cases h9
     obtain⟨qu,JE,_⟩:=Qyh hq cP.out
     have j7:=hid (Q4m hq cP.out)
     have lC:=wQ.out q (by omega) (by omega)
     go_wp2_with fail
     have GV:i≤j:=by obtain⟨_,_,_,_,h,_⟩:=cO.out;exact h
     obtain⟨gF,JF⟩:=um.out.next hn
     refine(by exact HR.out (j+1) (by omega) hn q _ d dp' gr' dv' (by omega) (by omega) gF:Calls _ _ _ _ _).mono ?_
     rintro e w5 ho
     obtain⟨u,rfl,u0,u1,Hs⟩:=ho.val
     obtain⟨j2,syn2,a2,b2,x2,Mm⟩:∃j2 syn2 a b c,QMa w5 p L j2 syn2 a b c:=by
      obtain⟨r,_,_,_,_,_,_,hm⟩:=ho
      cases r with
      | none=>obtain⟨j,a,b,c,h⟩:=hm;exact⟨j,true,a,b,c,h⟩
      | some y=>exact⟨_,_,_,_,_,hm.2⟩
     have Kb:=Qoo p L j2 syn2 a2 b2 x2 f qu JE v u w5 Mm v0' v1' u0 u1
     rw[←j7.out]at Kb
     have vT:=hid Kb
     have cM:=hid ho
     have Mq:=hid Mm
     have kb:=hid ((gh.out.trans JF (fun _ _ e=>e)).trans Hs (fun _ _ e=>e))
     clear Kb ho Mm Hs gF JF
     go_wp2_with fail
     refine(by exact vT.out:Calls _ _ _ _ _).mono ?_
     rintro e w6 ⟨rfl,JG,Hz⟩
     have o7:NoR L q j:=by
      intro t2 dE
      cases hx:Qlc t2 (Qya L j)with
      | none=>rfl
      | some f2=>
       have h9:=cP.out
       rw[HT.out]at h9
       have:=Qxh hx h9 (by omega) hq
       omega
     have Hc:Qlc q (Qya L j)=some f:=by rw[←HT.out];exact cP.out
     have jJ:=QAo cO.out hqm hm Hc o7 cM.out um.out Mq.out JG
     have qa:=hid jJ
     have gH:=hid (kb.out.trans Hz (fun _ _ e=>e))
     clear jJ Hc o7 JG Hz
     generalize (if Qib f u=true then(0:Int)else Q4b f v u)=z at *
     go_wp2_with fail
     go_roundg (gk-1)
     case measure=>omega
     case rel=>exact⟨z,syn2,j2,rfl,hid qa.out.1,gH,hid (fun e=>by have h1:=qa.out.2 e;have h2:=HF.out (by simp);omega)⟩
    ·have Hh:(10-(q:Int)<11-(m:Int)):=by omega
     go_wp2_with fail
     go_ret
     refine Q0k cO.out gh.out ?_
     intro t2 dE
     cases hx:Qlc t2 (Qya L j)with
     | none=>rfl
     | some f2=>
      have h9:=cP.out
      rw[HT.out]at h9
      have:=Qxh hx h9 (by omega) hq
      omega
theorem QBc.split{p:Nat}{L:List (Int × ByteArray × Int)}{W:Wh}{i d:Nat}{dp gr dv:Bool}{w w':World}{e:Ending}(h:QBc p L W d i dp gr dv w e w'):∃v,e = .returned (.int .u32 v)∧0≤v∧v≤4294967295∧Qaa (fun x=>x=p) w w'∧
 ((Rd L W d i none∧∃j a b c,QMa w' p L j true a b c)∨∃q:RvT,Rd L W d i (some q)∧(q.2.2.2.2=false→v=q.1)∧QMa w' p L q.2.1 false (dp || q.2.2.1) (gr || q.2.2.2.1) (dv || q.2.2.2.2)):=by
 obtain⟨r,v,hr,e,h0,h1,k,hm⟩:=h
 refine⟨v,e,h0,h1,k,?_⟩
 cases r with
 | none=>exact .inl ⟨hr,hm⟩
 | some q=>exact .inr ⟨q,hr,hm.1,hm.2⟩
set_option maxRecDepth 100000 in
theorem QQk(p:Nat)(L:List (Int × ByteArray × Int))(i:Nat)(hR:RC p L i)(hW:∀j,i<j→j≤L.length→WC p L j):WC p L i:=by
 intro w d dp gr dv hd h
 have hr:=hR 10 w d dp gr dv (by omega) hd h
 rw[show(11-((10:Nat):Int))=1 from by decide]at hr
 have HR:=hid hr
 have HW:=hid hW
 obtain⟨_,_,_,_,_,_,_,_,_,_,_,ah,aS⟩:=h.cells
 have oo:(d:Int)≤1000000000:=by omega
 clear hR hr hW h
 go_enter Tryz.func157,Tryz.ntmps157
 go_wp2_with fail
 refine(by exact HR.out:Calls _ _ _ _ _).mono ?_
 rintro e w1 ho
 obtain⟨x,rfl,x0,x1,Ht,hc⟩:=ho.split
 have Gj:=hid Ht
 clear ho Ht
 rcases hc with⟨hN,j,a,b,c,ha⟩|⟨q,gM,hv,ha⟩
 ·obtain⟨c1,c2,_,_,_,f1,_,_,_,_,cl,di,_⟩:=ha.cells
  have HN:=hid (Q8e hN)
  have HA:=hid ha
  clear hN ha
  go_wp2_with fail
  go_ret
  exact⟨none,x,HN.out,rfl,x0,x1,Gj.out,_,_,_,_,HA.out⟩
 ·have GV:i<q.2.1:=Qto gM (show 10≤10 by omega) rfl
  obtain⟨j,hj⟩:∃j,j=q.2.1:=⟨_,rfl⟩
  rw[←hj]at ha GV
  obtain⟨c1,c2,_,_,_,f1,_,_,_,_,cl,di,_⟩:=ha.cells
  have Hk:=QIe p L j false _ _ _ w1 ha
  unfold Qtc at Hk
  have ki:=hid gM
  have HV:=hid hv
  have HJ:=hid hj
  have HA:=hid ha
  clear gM hv hj ha
  by_cases hs:Qya L j=⟨#[63]⟩
  ·have hn:j+1≤L.length:=Qad (by rw[hs];intro e;cases e)
   have HS:=hid (show Qya L q.2.1=⟨#[63]⟩by rw[←HJ.out];exact hs)
   rw[hs]at Hk
   have kA:=hid Hk
   clear hs Hk
   go_wp2_with fail
   refine(by exact kA.out:Calls _ _ _ _ _).mono ?_
   rintro e w2 ⟨rfl,gT,Hp⟩
   obtain⟨d1,_,_,_,_,g1,_,_,_,_,dl,_,_⟩:=gT.cells
   have jL:=hid gT
   have Gw:=hid (Gj.out.trans (Hp.mono (S:=fun b=>b=p) (fun _ _ e=>e.elim)) (fun _ _ e=>e))
   clear gT Hp
   go_wp2_with fail
   obtain⟨gF,JF⟩:=jL.out.next hn
   refine(by exact HW.out (j+1) (by omega) hn _ d _ _ _ (by omega) gF:Calls _ _ _ _ _).mono ?_
   rintro e w3 ho
   obtain⟨y,rfl,y0,y1,Hd,hc⟩:=ho.split
   have gh:=hid ((Gw.out.trans JF (fun _ _ e=>e)).trans Hd (fun _ _ e=>e))
   clear ho Hd gF JF
   rcases hc with⟨hN,j2,a2,b2,x2,Mm⟩|⟨r,jc,qL,Mm⟩
   ·obtain⟨k1,k2,_,_,_,l1,_,_,_,_,kl,ta,_⟩:=Mm.cells
    have HN:=hid (Qvh ki.out HS.out (by rw[←HJ.out];exact hN))
    have Mq:=hid Mm
    clear hN Mm
    go_wp2_with fail
    go_ret
    exact⟨none,0,HN.out,rfl,by omega,by omega,gh.out,_,_,_,_,Mq.out⟩
   ·have fZ:j+1<r.2.1:=Qto jc trivial rfl
    obtain⟨j2,Gr⟩:∃j,j=r.2.1:=⟨_,rfl⟩
    rw[←Gr]at Mm fZ
    obtain⟨k1,k2,_,_,_,l1,_,_,_,_,kl,ta,_⟩:=Mm.cells
    have G0:=QNm p L j2 false _ _ _ ⟨#[58]⟩ w3 Mm (by intro e;cases e)
    have gA:=hid G0
    have Jb:=hid (show Rd L .whole d (q.2.1+1) (some r)by rw[←HJ.out];exact jc)
    have qc:=hid qL
    have jv:=hid Gr
    have Mq:=hid Mm
    clear jc qL Gr Mm G0
    by_cases gB:Qya L j2=⟨#[58]⟩
    ·have Jq:j2+1≤L.length:=Qad (by rw[gB];intro e;cases e)
     have Ms:=hid gB
     clear gB
     go_wp2_with fail
     refine(by exact gA.out:Calls _ _ _ _ _).mono ?_
     rintro e w4 ⟨rfl,Hr,t1,_⟩
     have MK:=t1 Ms.out
     obtain⟨m1,m2,_,_,_,n1,_,_,_,_,ml,_,_⟩:=MK.cells
     have rP:=hid MK
     have gQ:=hid (gh.out.trans Hr (fun _ _ e=>e))
     clear MK Hr t1
     go_wp2_with fail
     refine(by exact HW.out (j2+1) (by omega) Jq _ d _ _ _ (by omega) rP.out:Calls _ _ _ _ _).mono ?_
     rintro e w5 ho
     obtain⟨z,rfl,z0,z1,Hs,hc⟩:=ho.split
     have kb:=hid (gQ.out.trans Hs (fun _ _ e=>e))
     have HC:=hid hc
     clear ho Hs hc
     have Hg:QBc p L .whole d i dp gr dv w (.returned (.int .u32 (if x=0 then z else y))) w5:=by
      have hb:0≤(if x=0 then z else y)∧(if x=0 then z else y)≤4294967295:=by split <;> omega
      rcases HC.out with⟨hN,hE⟩|⟨s,hrd3,lB,lf⟩
      ·have h3:=QYm ki.out HS.out Jb.out (by rw[←jv.out];exact Ms.out) (by rw[←jv.out];exact hN)
       exact⟨none,_,h3,rfl,hb.1,hb.2,kb.out,hE⟩
      ·have h3:=QYm ki.out HS.out Jb.out (by rw[←jv.out];exact Ms.out) (by rw[←jv.out];exact hrd3)
       refine⟨_,_,h3,rfl,hb.1,hb.2,kb.out,?_,?_⟩
       ·intro hf
        have hf':((q.2.2.2.2 || r.2.2.2.2) || s.2.2.2.2)=false:=hf
        rw[Bool.or_eq_false_iff,Bool.or_eq_false_iff]at hf'
        rw[HV.out hf'.1.1,qc.out hf'.1.2,lB hf'.2]
       ·have e1:(dp || q.2.2.1 || r.2.2.1 || s.2.2.1)=(dp || ((q.2.2.1 || r.2.2.1) || s.2.2.1)):=by simp[Bool.or_assoc]
        have e2:(gr || q.2.2.2.1 || r.2.2.2.1 || s.2.2.2.1)=(gr || ((q.2.2.2.1 || r.2.2.2.1) || s.2.2.2.1)):=by simp[Bool.or_assoc]
        have e3:(dv || q.2.2.2.2 || r.2.2.2.2 || s.2.2.2.2)=(dv || ((q.2.2.2.2 || r.2.2.2.2) || s.2.2.2.2)):=by simp[Bool.or_assoc]
        rw[e1,e2,e3]at lf
        exact lf
     have GJ:=hid Hg
     clear Hg
     by_cases hx:x=0
     ·have rh:=hid (show QBc p L .whole d i dp gr dv w (.returned (.int .u32 z)) w5 by have:=GJ.out;rwa [if_pos hx]at this)
      subst hx
      go_wp2_with fail
      go_ret
      exact rh.out
     ·have rh:=hid (show QBc p L .whole d i dp gr dv w (.returned (.int .u32 y)) w5 by have:=GJ.out;rwa [if_neg hx]at this)
      have bZ:(x != 0)=true:=by rw[bne_iff_ne];exact hx
      go_wp2_with fail
      go_ret
      exact rh.out
    ·have HN:=hid (Q8i ki.out HS.out Jb.out (by rw[←jv.out];exact gB))
     have Ms:=hid gB
     clear gB
     go_wp2_with fail
     refine(by exact gA.out:Calls _ _ _ _ _).mono ?_
     rintro e w4 ⟨rfl,Hr,_,t2⟩
     have MK:=t2 Ms.out
     obtain⟨m1,m2,_,_,_,n1,_,_,_,_,ml,_,_⟩:=MK.cells
     have rP:=hid MK
     have gQ:=hid (gh.out.trans Hr (fun _ _ e=>e))
     clear MK Hr t2
     go_wp2_with fail
     go_ret
     exact⟨none,0,HN.out,rfl,by omega,by omega,gQ.out,_,_,_,_,rP.out⟩
  ·have n63:((Qya L j).toList == [63])=false:=by rw[beq_eq_false_iff_ne];intro e;exact hs (Qic e)
   have HS:=hid (show Qya L q.2.1≠⟨#[63]⟩by rw[←HJ.out];exact hs)
   obtain⟨t,ht⟩:∃t,t=Qya L j:=⟨_,rfl⟩
   rw[←ht]at Hk n63
   have kA:=hid Hk
   clear hs ht Hk
   go_wp2_with fail
   refine(by exact kA.out:Calls _ _ _ _ _).mono ?_
   rintro e w2 ⟨rfl,gT,Hp⟩
   have jL:=hid gT
   have Gw:=hid (Gj.out.trans (Hp.mono (S:=fun b=>b=p) (fun _ _ e=>e.elim)) (fun _ _ e=>e))
   clear gT Hp
   go_wp2_with fail
   go_ret
   exact⟨some q,x,Q6f ki.out HS.out,rfl,x0,x1,Gw.out,HV.out,by rw[←HJ.out];exact jL.out⟩
theorem QYq(p:Nat)(L:List (Int × ByteArray × Int)):∀n i,L.length-i≤n→OC p L i∧RC p L i∧WC p L i:=by
 intro n
 induction n with
 | zero=>
  intro i hi
  have hO:=Qth p L i (fun h=>by omega) (fun h=>by omega)
  have hR:=QYo p L i hO (fun j h1 h2=>by omega)
  exact⟨hO,hR,QQk p L i hR (fun j h1 h2=>by omega)⟩
 | succ n ih=>
  intro i hi
  have hO:=Qth p L i (fun h=>(ih (i+1) (by omega)).1) (fun h=>(ih (i+1) (by omega)).2.2)
  have hR:=QYo p L i hO (fun j h1 h2=>(ih j (by omega)).2.1)
  exact⟨hO,hR,QQk p L i hR (fun j h1 h2=>(ih j (by omega)).2.2)⟩
set_option maxRecDepth 100000 in
theorem QMm{w:World}{p:Nat}{L:List (Int × ByteArray × Int)}{j:Nat}{s a b c:Bool}(h:QMa w p L j s a b c)(u:Int)(h0:0≤u)(h1:u≤4294967295) :
 Calls Tryz.prog 152 #[.pointer (some ⟨p,0,none⟩),.int .u32 u] w fun e w'=>e = .returned (.tuple #[.int .i64 (Qrf s a b c u j).1,.int .i64 (Qrf s a b c u j).2.1,.int .i64 (Qrf s a b c u j).2.2])∧Qaa (fun _=>False) w w':=by
 obtain⟨c1,c2,c3,c4,c5,_,_,_,_,_,cl,di,aS⟩:=h.cells
 clear h
 have HL:=hid (And.intro di aS)
 clear di aS
 cases s with
 | true=>
  go_enter Tryz.func152,Tryz.ntmps152
  go_wp2_with fail
  go_ret3
  exact⟨rfl,Qaa.refl _ _⟩
 | false=>
  cases a with
  | true=>
   go_enter Tryz.func152,Tryz.ntmps152
   go_wp2_with fail
   go_ret3
   exact⟨rfl,Qaa.refl _ _⟩
  | false=>
   cases b with
   | true=>
    go_enter Tryz.func152,Tryz.ntmps152
    go_wp2_with fail
    go_ret3
    exact⟨rfl,Qaa.refl _ _⟩
   | false=>
    cases c with
    | true=>
     go_enter Tryz.func152,Tryz.ntmps152
     go_wp2_with fail
     go_ret3
     exact⟨rfl,Qaa.refl _ _⟩
    | false=>
     go_enter Tryz.func152,Tryz.ntmps152
     go_wp2_with fail
     go_quiet (fail)
     go_wp2_with fail
     go_ret3
     exact⟨rfl,Qda _ _⟩
theorem QBc.marks{p:Nat}{L:List (Int × ByteArray × Int)}{W:Wh}{i d:Nat}{w w':World}{e:Ending}(h:QBc p L W d i false false false w e w') :
 ∃u j s a b c,e = .returned (.int .u32 u)∧0≤u∧u≤4294967295∧QMa w' p L j s a b c∧Qaa (fun x=>x=p) w w'∧∃res,Rd L W d i res∧QSf res=Qrf s a b c u j:=by
 obtain⟨r,u,hr,rfl,h0,h1,k,hm⟩:=h
 cases r with
 | none=>
  obtain⟨j,a,b,c,ha⟩:=hm
  exact⟨u,j,true,a,b,c,rfl,h0,h1,ha,k,none,hr,rfl⟩
 | some q=>
  obtain⟨hv,ha⟩:=hm
  obtain⟨v,j,a,b,c⟩:=q
  refine⟨u,j,false,a,b,c,rfl,h0,h1,by simpa using ha,k,_,hr,?_⟩
  cases a with
  | true=>rfl
  | false=>
   cases b with
   | true=>rfl
   | false=>
    cases c with
    | true=>rfl
    | false=>
     have:=hv rfl
     rw[this];rfl
theorem QSp{w:World}{L:List (Int × ByteArray × Int)}{v:Value}{i:Nat}(hv:Qcg (fun x=>x<w.heap.size) w v L)(hL:L.length≤1000000000)(hi:i≤L.length) :
 QMa (w.alloc (.cells #[v,.int .i64 i,.bool false,.bool false,.bool false,.bool false] 179)) w.heap.size L i false false false false:=by
 refine⟨v,Qca.new w _ _,?_,hi,hL⟩
 obtain⟨a,c,e1,e2,e3⟩:=hv.keeps ((Qaa.refl (fun _=>False) w).alloc (.cells #[v,.int .i64 i,.bool false,.bool false,.bool false,.bool false] 179)) (fun _ _ e=>e)
 refine⟨a,c,e1,e2,fun h0=>?_⟩
 obtain⟨g',o',f1,f2,f3⟩:=e3 h0
 exact⟨g',o',f1,(by show g'≠w.heap.size;omega),f3⟩
theorem Qsf{w w2 w3:World}{o:Obj}(k:Qaa (fun x=>x=w.heap.size) (w.alloc o) w2)(k3:Qaa (fun _=>False) w2 w3):Below w.heap.size w w3:=
 ((((Qaa.refl (fun x=>x=w.heap.size) w).alloc o).trans k (fun _ _ e=>e)).trans (k3.mono (S:=fun x=>x=w.heap.size) (fun _ _ e=>e.elim)) (fun _ _ e=>e)).below (Nat.le_refl _) (fun i hi e=>by omega)
theorem QKm{L:List (Int × ByteArray × Int)}{d i:Nat}{r:Option RvT}(hu:unB (Qya L i)=false)(h:Rd L .opnd d i r):Rd L .prim d i r:=by
 have hp:=Q9l L .prim d i trivial
 have e:=Rd.det h (Q9h hu hp)
 rw[e];exact hp
set_option maxRecDepth 100000 in
theorem Qrl(L:List (Int × ByteArray × Int))(v:Value)(i:Nat)(w:World)(hv:Qcg (fun x=>x<w.heap.size) w v L)(hL:L.length≤1000000000)(hi:i<L.length) :
 Calls Tryz.prog 149 #[v,.int .i64 i] w fun e w'=>∃res,Rd L .prim 0 i res∧e = .returned (.tuple #[.int .i64 (QSf res).1,.int .i64 (QSf res).2.1,.int .i64 (QSf res).2.2])∧Below w.heap.size w w':=by
 have oK:(i:Int)<(L.length:Int):=by omega
 have Kc:¬((L.length:Int)≤(i:Int)):=by omega
 have mz:=QSp hv hL (Nat.le_of_lt hi)
 have HV:=hid hv
 have Gg:=hid (show L[i]? = some L[i]from List.getElem?_eq_getElem hi)
 obtain⟨a,cap,rfl,gn,mP⟩:=hv
 obtain⟨gt,ot,rfl,s9,hc⟩:=mP (by omega)
 have Hk:=QIe w.heap.size L i false false false false _ mz
 have Ha:=fun wx hx=>(QYq w.heap.size L (L.length-i) i (Nat.le_refl _)).1 wx 0 false false false (Nat.zero_le _) hx
 unfold Qtc at Hk
 rw[show(((0:Nat):Int))=0 from rfl]at Ha
 have dC:L[i].1≠4→Qya L i=⟨#[]⟩:=fun h=>by unfold Qya;rw[Gg.out];exact if_neg h
 obtain⟨d0,_⟩:=hc i hi
 have K0:=hid ((Qaa.refl (fun _=>False) w).alloc (.cells #[.slice (some ⟨gt,ot,none⟩) L.length cap,.int .i64 i,.bool false,.bool false,.bool false,.bool false] 179))
 have d0':=(K0.out.cell (p:=⟨gt,ot+i*6,none⟩) s9 (fun e=>e)).trans d0
 clear hc mP gn d0
 by_cases hk:L[i].1=2
 ·rw[hk]at d0'
  have HU:=hid (show unB (Qya L i)=false by rw[dC (by omega)];decide)
  have ar:=hid (Ha _ mz)
  clear Ha mz Hk dC hk Gg
  go_enter Tryz.func149,Tryz.ntmps149
  go_wp2_with fail
  refine(by exact ar.out:Calls _ _ _ _ _).mono ?_
  rintro e w2 ho
  obtain⟨u,j,s,x,y,z,rfl,u0,u1,ha,Hp,Gh⟩:=ho.marks
  have Gw:=hid Hp
  have MV:=hid Gh
  have re:=hid (QMm ha u u0 u1)
  clear ho ha Hp Gh
  go_wp2_with fail
  refine(by exact re.out:Calls _ _ _ _ _).mono ?_
  rintro e w3 ⟨rfl,Hd⟩
  have gh:=hid Hd
  clear Hd
  generalize Qrf s x y z u j=M at *
  obtain⟨m1,m2,m3⟩:=M
  go_wp2_with fail
  go_ret3
  obtain⟨res,hr,e⟩:=MV.out
  exact⟨res,QKm HU.out hr,by rw[e];rfl,Qsf Gw.out gh.out⟩
 ·have kR:(L[i].1 != 2)=true:=by simpa using hk
  have hkb2:(L[i].1 == 2)=false:=by simpa using hk
  by_cases hs:Qya L i=⟨#[40]⟩
  ·have HU:=hid (show unB (Qya L i)=false by rw[hs];decide)
   rw[hs]at Hk
   have kA:=hid Hk
   have ar:=hid Ha
   clear Ha mz Hk dC hk Gg hs
   generalize L[i].1=kd at *
   go_enter Tryz.func149,Tryz.ntmps149
   go_wp2_with fail
   refine(by exact kA.out:Calls _ _ _ _ _).mono ?_
   rintro e w1 ⟨rfl,gi,Ht⟩
   have GH:=hid gi
   have Gj:=hid Ht
   clear gi Ht
   go_wp2_with fail
   refine(by exact ar.out _ GH.out:Calls _ _ _ _ _).mono ?_
   rintro e w2 ho
   obtain⟨u,j,s,x,y,z,rfl,u0,u1,ha,Hp,Gh⟩:=ho.marks
   have Gw:=hid ((Gj.out.mono (S:=fun b=>b=w.heap.size) (fun _ _ e=>e.elim)).trans Hp (fun _ _ e=>e))
   have MV:=hid Gh
   have re:=hid (QMm ha u u0 u1)
   clear ho ha Hp Gh
   go_wp2_with fail
   refine(by exact re.out:Calls _ _ _ _ _).mono ?_
   rintro e w3 ⟨rfl,Hd⟩
   have gh:=hid Hd
   clear Hd
   generalize Qrf s x y z u j=M at *
   obtain⟨m1,m2,m3⟩:=M
   go_wp2_with fail
   go_ret3
   obtain⟨res,hr,e⟩:=MV.out
   exact⟨res,QKm HU.out hr,by rw[e];rfl,Qsf Gw.out gh.out⟩
  ·have n40:((Qya L i).toList == [40])=false:=by rw[beq_eq_false_iff_ne];intro e;exact hs (Qic e)
   have HN:=hid (Q5f (d:=0) hs (fun t e=>by rw[Gg.out]at e;cases e;exact hk))
   obtain⟨t,ht⟩:∃t,t=Qya L i:=⟨_,rfl⟩
   rw[←ht]at Hk n40
   have kA:=hid Hk
   clear Ha mz Hk dC hk Gg hs ht
   generalize L[i].1=kd at *
   go_enter Tryz.func149,Tryz.ntmps149
   go_wp2_with fail
   refine(by exact kA.out:Calls _ _ _ _ _).mono ?_
   rintro e w1 ⟨rfl,gi,Ht⟩
   have Gj:=hid Ht
   clear gi Ht
   go_wp2_with fail
   go_ret3
   exact⟨none,HN.out,rfl,Qsf (Gj.out.mono (S:=fun b=>b=w.heap.size) (fun _ _ e=>e.elim)) (Qaa.refl _ _)⟩
end Go.Proofs.YtofhcgbihonckaaGreat
