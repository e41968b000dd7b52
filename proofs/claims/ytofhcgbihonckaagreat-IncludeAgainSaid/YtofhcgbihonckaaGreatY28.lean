/- bringupref02: rank (printed by grfec.py). | Plain: reading by ranks is reading by levels. | bringupref02: what its methods leave. | bringupref02: operand. | bringupref02: row. | bringupref02: the walk of row. | bringupref02: whole. | bringupref02: done, Value, Primary. -/
import Derived.Test.YtofhcgbihonckaaGreatY9
import Derived.Test.YtofhcgbihonckaaGreatY10
import Derived.Test.YtofhcgbihonckaaGreatY12
import Derived.Deep.LoopGhost
import Derived.StillTailTactics
import Derived.Deep.DeepCutAuto
import Derived.Deep.CutBlock
import Derived.Test.YtofhcgbihonckaaGreatY11
set_option linter.all false
set_option maxHeartbeats 8000000
namespace Go.Proofs.YtofhcgbihonckaaGreat
open Go.Lib (hid)
open Go.RowKit
def Q6d:List (List ByteArray):=[[⟨#[124,124]⟩],[⟨#[38,38]⟩],[⟨#[124]⟩],[⟨#[94]⟩],[⟨#[38]⟩],[⟨#[61,61]⟩,⟨#[33,61]⟩],[⟨#[60]⟩,⟨#[62]⟩,⟨#[60,61]⟩,⟨#[62,61]⟩],[⟨#[60,60]⟩,⟨#[62,62]⟩],[⟨#[43]⟩,⟨#[45]⟩],[⟨#[42]⟩,⟨#[47]⟩,⟨#[37]⟩]]
theorem QZj:∀i,i<10→Q6d.getD i []=(Q1b.getD (9-i) []).map (·.1):=by decide
theorem Q5l{q:Nat}{s:ByteArray}(h:s ∉ (Q1b.getD q []).map (·.1)):Q7b q s=none:=by
 unfold Q7b
 rw[Option.map_eq_none_iff,List.find?_eq_none]
 intro p hp e
 simp only[decide_eq_true_eq]at e
 exact h (List.mem_map.2 ⟨p,hp,e⟩)
theorem Q6l{q:Nat}{s:ByteArray}(h:s∈(Q1b.getD q []).map (·.1)):∃f,Q7b q s=some f:=by
 obtain⟨p,hp,e⟩:=List.mem_map.1 h
 unfold Q7b
 cases hf:(Q1b.getD q []).find? (fun p=>decide (p.1=s))with
 | none=>
  rw[List.find?_eq_none]at hf
  exact absurd (by simpa using e) (hf p hp)
 | some x=>exact⟨x.2,rfl⟩
def Qwm(s:ByteArray)(w:World)(e:Ending)(w':World):Prop:=
 ∃R:Int,e = .returned (.int .i64 R)∧((R=0∧∀q,q<10→Q7b q s=none)∨∃q f:Nat,q<10∧R=10-(q:Int)∧Q7b q s=some f)∧Below w.heap.size w w'
structure Qyq(B:Nat)(w:World):Prop where
 top:Qca w (B+10) ((List.range 10).map fun i=>Value.slice (some ⟨B+i,0,none⟩) (Q6d.getD i []).length (Q6d.getD i []).length).toArray 39
 row:∀i,i<10→Qca w (B+i) ((Q6d.getD i []).map Value.string).toArray 9
theorem Q1o(w:World):Qyq w.heap.size (((((((((((w.alloc (.cells #[.string ⟨#[124,124]⟩] 9)).alloc (.cells #[.string ⟨#[38,38]⟩] 9)).alloc (.cells #[.string ⟨#[124]⟩] 9)).alloc (.cells #[.string ⟨#[94]⟩] 9)).alloc (.cells #[.string ⟨#[38]⟩] 9)).alloc (.cells #[.string ⟨#[61,61]⟩,.string ⟨#[33,61]⟩] 9)).alloc (.cells #[.string ⟨#[60]⟩,.string ⟨#[62]⟩,.string ⟨#[60,61]⟩,.string ⟨#[62,61]⟩] 9)).alloc (.cells #[.string ⟨#[60,60]⟩,.string ⟨#[62,62]⟩] 9)).alloc (.cells #[.string ⟨#[43]⟩,.string ⟨#[45]⟩] 9)).alloc (.cells #[.string ⟨#[42]⟩,.string ⟨#[47]⟩,.string ⟨#[37]⟩] 9)).alloc (.cells #[.slice (some ⟨w.heap.size,0,none⟩) 1 1,.slice (some ⟨w.heap.size+1,0,none⟩) 1 1,.slice (some ⟨w.heap.size+2,0,none⟩) 1 1,.slice (some ⟨w.heap.size+3,0,none⟩) 1 1,.slice (some ⟨w.heap.size+4,0,none⟩) 1 1,.slice (some ⟨w.heap.size+5,0,none⟩) 2 2,.slice (some ⟨w.heap.size+6,0,none⟩) 4 4,.slice (some ⟨w.heap.size+7,0,none⟩) 2 2,.slice (some ⟨w.heap.size+8,0,none⟩) 2 2,.slice (some ⟨w.heap.size+9,0,none⟩) 3 3] 39))∧Below w.heap.size w (((((((((((w.alloc (.cells #[.string ⟨#[124,124]⟩] 9)).alloc (.cells #[.string ⟨#[38,38]⟩] 9)).alloc (.cells #[.string ⟨#[124]⟩] 9)).alloc (.cells #[.string ⟨#[94]⟩] 9)).alloc (.cells #[.string ⟨#[38]⟩] 9)).alloc (.cells #[.string ⟨#[61,61]⟩,.string ⟨#[33,61]⟩] 9)).alloc (.cells #[.string ⟨#[60]⟩,.string ⟨#[62]⟩,.string ⟨#[60,61]⟩,.string ⟨#[62,61]⟩] 9)).alloc (.cells #[.string ⟨#[60,60]⟩,.string ⟨#[62,62]⟩] 9)).alloc (.cells #[.string ⟨#[43]⟩,.string ⟨#[45]⟩] 9)).alloc (.cells #[.string ⟨#[42]⟩,.string ⟨#[47]⟩,.string ⟨#[37]⟩] 9)).alloc (.cells #[.slice (some ⟨w.heap.size,0,none⟩) 1 1,.slice (some ⟨w.heap.size+1,0,none⟩) 1 1,.slice (some ⟨w.heap.size+2,0,none⟩) 1 1,.slice (some ⟨w.heap.size+3,0,none⟩) 1 1,.slice (some ⟨w.heap.size+4,0,none⟩) 1 1,.slice (some ⟨w.heap.size+5,0,none⟩) 2 2,.slice (some ⟨w.heap.size+6,0,none⟩) 4 4,.slice (some ⟨w.heap.size+7,0,none⟩) 2 2,.slice (some ⟨w.heap.size+8,0,none⟩) 2 2,.slice (some ⟨w.heap.size+9,0,none⟩) 3 3] 39)):=by
 refine⟨⟨?_,?_⟩,?_⟩
 ·exact Qca.newAt (by simp) _ _
 ·intro i hi
  have hc:i=0∨i=1∨i=2∨i=3∨i=4∨i=5∨i=6∨i=7∨i=8∨i=9:=by omega
  rcases hc with rfl|rfl|rfl|rfl|rfl|rfl|rfl|rfl|rfl|rfl
  ·exact((((((((((Qca.newAt (B:=w.heap.size+0) (by simp) #[.string ⟨#[124,124]⟩] 9).alloc _).alloc _).alloc _).alloc _).alloc _).alloc _).alloc _).alloc _).alloc _).alloc _
  ·exact(((((((((Qca.newAt (B:=w.heap.size+1) (by simp) #[.string ⟨#[38,38]⟩] 9).alloc _).alloc _).alloc _).alloc _).alloc _).alloc _).alloc _).alloc _).alloc _
  ·exact((((((((Qca.newAt (B:=w.heap.size+2) (by simp) #[.string ⟨#[124]⟩] 9).alloc _).alloc _).alloc _).alloc _).alloc _).alloc _).alloc _).alloc _
  ·exact(((((((Qca.newAt (B:=w.heap.size+3) (by simp) #[.string ⟨#[94]⟩] 9).alloc _).alloc _).alloc _).alloc _).alloc _).alloc _).alloc _
  ·exact((((((Qca.newAt (B:=w.heap.size+4) (by simp) #[.string ⟨#[38]⟩] 9).alloc _).alloc _).alloc _).alloc _).alloc _).alloc _
  ·exact(((((Qca.newAt (B:=w.heap.size+5) (by simp) #[.string ⟨#[61,61]⟩,.string ⟨#[33,61]⟩] 9).alloc _).alloc _).alloc _).alloc _).alloc _
  ·exact((((Qca.newAt (B:=w.heap.size+6) (by simp) #[.string ⟨#[60]⟩,.string ⟨#[62]⟩,.string ⟨#[60,61]⟩,.string ⟨#[62,61]⟩] 9).alloc _).alloc _).alloc _).alloc _
  ·exact(((Qca.newAt (B:=w.heap.size+7) (by simp) #[.string ⟨#[60,60]⟩,.string ⟨#[62,62]⟩] 9).alloc _).alloc _).alloc _
  ·exact((Qca.newAt (B:=w.heap.size+8) (by simp) #[.string ⟨#[43]⟩,.string ⟨#[45]⟩] 9).alloc _).alloc _
  ·exact(Qca.newAt (B:=w.heap.size+9) (by simp) #[.string ⟨#[42]⟩,.string ⟨#[47]⟩,.string ⟨#[37]⟩] 9).alloc _
 ·exact(((((((((((Below.refl w.heap.size w).alloc (by simp <;> omega) _).alloc (by simp <;> omega) _).alloc (by simp <;> omega) _).alloc (by simp <;> omega) _).alloc (by simp <;> omega) _).alloc (by simp <;> omega) _).alloc (by simp <;> omega) _).alloc (by simp <;> omega) _).alloc (by simp <;> omega) _).alloc (by simp <;> omega) _).alloc (by simp <;> omega) _
set_option maxRecDepth 100000 in
theorem QTo(s:ByteArray)(w:World):Calls Tryz.prog 184 #[.string s] w (Qwm s w):=by
 obtain⟨hR,hB⟩:=Q1o w
 have HR:=hid hR
 have HB:=hid hB
 clear hR hB
 go_enter Tryz.func184,Tryz.ntmps184
 go_upto_region 2 with fail
 generalize ((((((((((w.alloc (.cells #[.string ⟨#[124,124]⟩] 9)).alloc (.cells #[.string ⟨#[38,38]⟩] 9)).alloc (.cells #[.string ⟨#[124]⟩] 9)).alloc (.cells #[.string ⟨#[94]⟩] 9)).alloc (.cells #[.string ⟨#[38]⟩] 9)).alloc (.cells #[.string ⟨#[61,61]⟩,.string ⟨#[33,61]⟩] 9)).alloc (.cells #[.string ⟨#[60]⟩,.string ⟨#[62]⟩,.string ⟨#[60,61]⟩,.string ⟨#[62,61]⟩] 9)).alloc (.cells #[.string ⟨#[60,60]⟩,.string ⟨#[62,62]⟩] 9)).alloc (.cells #[.string ⟨#[43]⟩,.string ⟨#[45]⟩] 9)).alloc (.cells #[.string ⟨#[42]⟩,.string ⟨#[47]⟩,.string ⟨#[37]⟩] 9)).alloc (.cells #[.slice (some ⟨w.heap.size,0,none⟩) 1 1,.slice (some ⟨w.heap.size+1,0,none⟩) 1 1,.slice (some ⟨w.heap.size+2,0,none⟩) 1 1,.slice (some ⟨w.heap.size+3,0,none⟩) 1 1,.slice (some ⟨w.heap.size+4,0,none⟩) 1 1,.slice (some ⟨w.heap.size+5,0,none⟩) 2 2,.slice (some ⟨w.heap.size+6,0,none⟩) 4 4,.slice (some ⟨w.heap.size+7,0,none⟩) 2 2,.slice (some ⟨w.heap.size+8,0,none⟩) 2 2,.slice (some ⟨w.heap.size+9,0,none⟩) 3 3] 39)=W at *
 go_wp2_with fail
 go_loopg [19] 10 (fun f x wr=>∃i:Nat,x = .int .i64 i∧i≤10∧10≤i+f∧Hid (∀q,q<i→s ∉ Q6d.getD q [])∧W=wr)
 case atStart=>exact⟨0,rfl,by omega,by omega,hid (fun q h=>by omega),rfl⟩
 case round=>
  obtain⟨io,rfl,GV,kU,hN,rfl⟩:=hrel
  obtain⟨go,rfl⟩:∃x:Nat,x=gk:=⟨_,rfl⟩
  by_cases Hj:io<10
  ·have pU:(io:Int)<10:=by omega
   have qz:W.cell? ⟨w.heap.size+10,io,none⟩=some (.slice (some ⟨w.heap.size+io,0,none⟩) (Q6d.getD io []).length (Q6d.getD io []).length):=by
    rw[HR.out.top.cell io]
    simp[Hj]
   have gm:=HR.out.top.lt
   have Hb:=hid (HR.out.row io Hj)
   have nI:(Q6d.getD io []).length≤4:=by
    have:∀i,i<10→(Q6d.getD i []).length≤4:=by decide
    exact this io Hj
   obtain⟨row,Jv⟩:∃row,row=Q6d.getD io []:=⟨_,rfl⟩
   rw[←Jv]at qz Hb nI
   have bo:=hid Jv
   clear Jv
   go_wp2_with fail
   go_loopg [26] row.length (fun f x wr=>∃k:Nat,x = .int .i64 k∧k≤row.length∧row.length≤k+f∧Hid (∀j (h:j<row.length),j<k→row[j]≠s)∧W=wr)
   case atStart=>exact⟨0,rfl,by omega,by omega,hid (fun j _ h=>by omega),rfl⟩
   case round=>
    obtain⟨k,rfl,Ht,Ho,hM,rfl⟩:=hrel
    by_cases hklt:k<row.length
    ·have cz:(k:Int)<(row.length:Int):=by omega
     have hc:W.cell? ⟨w.heap.size+io,k,none⟩=some (.string row[k]):=by
      rw[Hb.out.cell k];simp[hklt]
     have kh:=Hb.out.lt
     by_cases he:row[k]=s
     ·have mQ:=hid (show s∈(Q1b.getD (9-io) []).map (·.1)from by rw[←QZj io Hj,←bo.out,←he];exact List.getElem_mem hklt)
      rw[he]at hc
      clear he
      go_wp2_with fail
      go_ret
      obtain⟨f,hf⟩:=Q6l mQ.out
      exact⟨_,rfl,.inr ⟨9-io,f,by omega,by omega,hf⟩,HB.out⟩
     ·have jT:=Qwj he
      have HE:=hid he
      clear he
      obtain⟨rk,l6⟩:∃rk,rk=row[k]:=⟨_,rfl⟩
      rw[←l6]at hc jT
      have HRK:=hid l6
      clear l6
      go_wp2_with fail
      go_roundg (gk-1)
      case measure=>omega
      case rel=>
       refine⟨k+1,by go_num,by omega,by omega,hid (fun j hj ls=>?_),rfl⟩
       by_cases e:j=k
       ·subst e;exact HE.out
       ·exact hM.out j hj (by omega)
    ·obtain rfl:k=row.length:=by omega
     have MO:=hid (show s ∉ row from fun hm=>by
      obtain⟨j,hj,e⟩:=List.getElem_of_mem hm
      exact hM.out j hj hj e)
     go_wp2_with fail
     go_roundg (go-1)
     case measure=>omega
     case rel=>
      refine⟨io+1,by go_num,by omega,by omega,hid (fun q hq=>?_),rfl⟩
      by_cases e:q=io
      ·subst e;rw[←bo.out];exact MO.out
      ·exact hN.out q (by omega)
  ·obtain rfl:io=10:=by omega
   go_wp2_with fail
   go_ret
   refine⟨_,rfl,.inl ⟨rfl,fun q hq=>Q5l (fun hm=>?_)⟩,HB.out⟩
   have h9:=hN.out (9-q) (by omega)
   rw[QZj (9-q) (by omega),show 9-(9-q)=q from by omega]at h9
   exact h9 hm
abbrev RvT:=Int × Nat × Bool × Bool × Bool
def orQ(f:Bool × Bool × Bool)(x:RvT):RvT:=(x.1,x.2.1,orF f x.2.2)
theorem QGl(f:Bool × Bool × Bool):orF f noF=f:=by obtain⟨a,b,c⟩:=f;simp[orF,noF]
theorem Qyo(f:Bool × Bool × Bool):orF noF f=f:=by obtain⟨a,b,c⟩:=f;simp[orF,noF]
theorem Qsk(f g h:Bool × Bool × Bool):orF (orF f g) h=orF f (orF g h):=by obtain⟨a,b,c⟩:=f;obtain⟨a',b',c'⟩:=g;obtain⟨x,y,z⟩:=h;simp[orF,Bool.or_assoc]
theorem QWn(r:Option RvT):r.map (orQ noF)=r:=by
 cases r with
 | none=>rfl
 | some x=>obtain⟨a,b,f⟩:=x;simp[orQ,Qyo]
theorem Q8i(f g:Bool × Bool × Bool)(r:Option RvT):(r.map (orQ g)).map (orQ f)=r.map (orQ (orF f g)):=by
 cases r with
 | none=>rfl
 | some x=>obtain⟨a,b,h⟩:=x;simp[orQ,Qsk]
inductive LsR (L:List (Int × ByteArray × Int)) (m d:Nat):Nat→Int→Nat→Option RvT→Prop
 | done (v:Int) (i:Nat):LsR L m d m v i (some (v,i,noF))
 | bad {t:Nat} {v:Int} {i:Nat}:t<m→Rd L (.loop t v) d i none→LsR L m d t v i none
 | next {t:Nat} {v:Int} {i:Nat} {q:RvT} {r:Option RvT}:t<m→Rd L (.loop t v) d i (some q)→LsR L m d (t+1) q.1 q.2.1 r→LsR L m d t v i (r.map (orQ q.2.2))
section
variable{L:List (Int × ByteArray × Int)}{m d:Nat}
theorem Q3e{i t:Nat}(h:Rd L (.lvl t) d i none):∀k,Rd L (.lvl (t+k)) d i none
 | 0=>h
 | k+1=>Qje (Q3e h k)
theorem QHp{t:Nat}{v:Int}{j:Nat}{r:Option RvT}(h:LsR L m d t v j r):∀{i:Nat} {f:Bool × Bool × Bool},Rd L (.lvl t) d i (some (v,j,f))→Rd L (.lvl m) d i (r.map (orQ f)):=by
 induction h with
 | done v j=>
  intro i f hq
  show Rd L (.lvl m) d i (some (v,j,orF f noF))
  rw[QGl];exact hq
 | @bad t v j ht hl=>
  intro i f hq
  have h1:=QYj hq hl
  have h2:=Q3e h1 (m-(t+1))
  rw[show t+1+(m-(t+1))=m from by omega]at h2
  exact h2
 | @next t v j q r ht hl hr ih=>
  intro i f hq
  have h1:=QYj hq hl
  have h2:=ih h1
  rw[Q8i]
  exact h2
def NoR(L:List (Int × ByteArray × Int))(q i:Nat):Prop:=∀t,t<q→Q7b t (Qwa L i)=none
theorem Qmj(k:Nat)(nN:∀d i x,Rd L (.lvl k) d i (some x)→NoR L k x.2.1):∀(n:Nat) (v:Int) (d j:Nat) (z:RvT),evT L n (.loop k v) d j=some (some z)→NoR L k j→NoR L (k+1) z.2.1:=by
 intro n
 induction n with
 | zero=>intro v d j z h;simp[evT]at h
 | succ n ih=>
  intro v d j z h hj
  rw[evT]at h
  cases hr:Q7b k (Qwa L j)with
  | none=>
   rw[hr]at h
   have e:(v,j,noF)=z:=Option.some.inj (Option.some.inj h)
   subst e
   intro t ht
   by_cases e:t=k
   ·subst e;exact hr
   ·exact hj t (by omega)
  | some f=>
   rw[hr]at h
   obtain⟨q,hq,e⟩:=Option.bind_eq_some_iff.1 h
   cases q with
   | none=>cases e
   | some q=>
    obtain⟨q2,aD,e2⟩:=Option.map_eq_some_iff.1 e
    cases q2 with
    | none=>cases e2
    | some q2=>
     have e3:=Option.some.inj e2
     rw[←e3]
     have h9:=ih _ _ _ q2 aD (nN _ _ _ ⟨n,hq⟩)
     exact h9
theorem Q2e:∀(k:Nat) (d i:Nat) (x:RvT),Rd L (.lvl k) d i (some x)→NoR L k x.2.1
 | 0,_,_,_,_=>fun t h=>by omega
 | k+1,d,i,x,h=>by
  obtain⟨n,h⟩:=h
  cases n with
  | zero=>simp[evT]at h
  | succ n=>
   rw[evT]at h
   obtain⟨q,hq,e⟩:=Option.bind_eq_some_iff.1 h
   cases q with
   | none=>cases e
   | some q=>
    obtain⟨q2,aD,e2⟩:=Option.map_eq_some_iff.1 e
    cases q2 with
    | none=>cases e2
    | some q2=>
     have e3:=Option.some.inj e2
     rw[←e3]
     have h9:=Qmj k (Q2e k) n _ _ _ q2 aD (Q2e k d i q ⟨n,hq⟩)
     exact h9
theorem Qul{q i:Nat}{v:Int}{r:Option RvT}(hn:NoR L q i)(hq:q≤m)(h:LsR L m d q v i r):∀k,k≤q→LsR L m d (q-k) v i r
 | 0,_=>h
 | k+1,hk=>by
  have h1:=Qul hn hq h k (by omega)
  have h2:=LsR.next (L:=L) (m:=m) (d:=d) (t:=q-(k+1)) (v:=v) (i:=i) (q:=(v,i,noF)) (r:=r) (by omega) (Qnd (hn _ (by omega))) (by rw[show q-(k+1)+1=q-k from by omega];exact h1)
  rw[QWn]at h2
  exact h2
theorem Qeh{q i:Nat}{v:Int}{r:Option RvT}(hn:NoR L q i)(hq:q≤m)(h:LsR L m d q v i r):LsR L m d 0 v i r:=by
 have:=Qul hn hq h q (Nat.le_refl _)
 rwa [Nat.sub_self]at this
theorem Qdi{q i:Nat}{v:Int}{r:Option RvT}(hn:NoR L q i)(hq:q≤m)(h:LsR L m d 0 v i r):∀k,k≤q→LsR L m d k v i r
 | 0,_=>h
 | k+1,hk=>by
  have h1:=Qdi hn hq h k (by omega)
  have he:=Qnd (L:=L) (d:=d) (v:=v) (hn k (by omega))
  generalize hk':k=k' at h1
  cases h1 with
  | done=>omega
  | bad _ hb=>subst hk';exact absurd (Rd.det hb he) (by simp)
  | next _ hb hr=>
   subst hk'
   have e:=Option.some.inj (Rd.det hb he)
   subst e
   rw[QWn]
   exact hr
theorem Qto{q i f:Nat}{v:Int}{y:RvT}{r:Option RvT}(hq:q<m)(hr:Q7b q (Qwa L i)=some f)(hn:NoR L q i)(hy:Rd L (.lvl q) d (i+1) (some y))
 (h:LsR L m d 0 (QPb f v (if Qdb f y.1=true then 1 else y.1)) y.2.1 r):LsR L m d 0 v i (r.map (orQ (orF y.2.2 (false,false,Qdb f y.1)))):=by
 have h1:=Qdi (Q2e q d (i+1) y hy) (Nat.le_of_lt hq) h q (Nat.le_refl _)
 refine Qeh hn (Nat.le_of_lt hq) ?_
 generalize hv':QPb f v (if Qdb f y.1=true then 1 else y.1)=v' at h1
 generalize hj:y.2.1=j at h1
 cases h1 with
 | done=>omega
 | bad _ hb=>
  subst hv' hj
  have h2:=Qxh hr hy hb
  exact LsR.bad hq h2
 | @next t _ _ z r _ hb l8=>
  subst hv' hj
  have h2:=Qxh hr hy hb
  rw[Q8i]
  exact LsR.next hq h2 l8
theorem QFp{q i f:Nat}{v:Int}(hq:q<m)(hr:Q7b q (Qwa L i)=some f)(hn:NoR L q i)(hy:Rd L (.lvl q) d (i+1) none):LsR L m d 0 v i none:=
 Qeh hn (Nat.le_of_lt hq) (LsR.bad hq (Qgf hr hy))
theorem QGp{i:Nat}{v:Int}(hn:NoR L m i):LsR L m d 0 v i (some (v,i,noF)):=Qeh hn (Nat.le_refl _) (LsR.done v i)
end
theorem QTg{s:ByteArray}{p q f g:Nat}(h1:Q7b p s=some f)(h2:Q7b q s=some g)(hp:p<10)(hq:q<10):p=q:=by
 have hm:∀{q f:Nat},Q7b q s=some f→∃x∈Q1b.getD q [],x.1=s:=by
  intro q f h
  unfold Q7b at h
  obtain⟨x,hx,_⟩:=Option.map_eq_some_iff.1 h
  have:=List.find?_some hx
  simp only[decide_eq_true_eq]at this
  exact⟨x,List.mem_of_find?_eq_some hx,this⟩
 have hd:((List.range 10).all fun p=>(List.range 10).all fun q=>(Q1b.getD p []).all fun x=>(Q1b.getD q []).all fun y=>!(decide (x.1=y.1)) || decide (p=q))=true:=by decide
 obtain⟨x,hx,e1⟩:=hm h1
 obtain⟨y,hy,e2⟩:=hm h2
 have h3:=List.all_eq_true.1 (List.all_eq_true.1 (List.all_eq_true.1 (List.all_eq_true.1 hd p (List.mem_range.2 hp)) q (List.mem_range.2 hq)) x hx) y hy
 rw[e1,e2]at h3
 simpa using h3
def Qkc(p:Nat)(L:List (Int × ByteArray × Int))(W:Wh)(d i:Nat)(dp gr dv:Bool)(w:World)(e:Ending)(w':World):Prop:=
 ∃(r:Option RvT) (v:Int),Rd L W d i r∧e = .returned (.int .u32 v)∧0≤v∧v≤4294967295∧Qaa (fun x=>x=p) w w'∧match r with
  | none=>∃j dp' gr' dv',QKa w' p L j true dp' gr' dv'
  | some q=>(q.2.2.2.2=false→v=q.1)∧QKa w' p L q.2.1 false (dp || q.2.2.1) (gr || q.2.2.2.1) (dv || q.2.2.2.2)
def OC(p:Nat)(L:List (Int × ByteArray × Int))(i:Nat):Prop:=∀(w:World) (d:Nat) (dp gr dv:Bool),d≤i→QKa w p L i false dp gr dv→
 Calls Tryz.prog 153 #[.pointer (some ⟨p,0,none⟩),.int .i64 (d:Int)] w (Qkc p L .opnd d i dp gr dv w)
def WC(p:Nat)(L:List (Int × ByteArray × Int))(i:Nat):Prop:=∀(w:World) (d:Nat) (dp gr dv:Bool),d≤i→QKa w p L i false dp gr dv→
 Calls Tryz.prog 157 #[.pointer (some ⟨p,0,none⟩),.int .i64 (d:Int)] w (Qkc p L .whole d i dp gr dv w)
def RC(p:Nat)(L:List (Int × ByteArray × Int))(i:Nat):Prop:=∀(m:Nat) (w:World) (d:Nat) (dp gr dv:Bool),m≤10→d≤i→QKa w p L i false dp gr dv→
 Calls Tryz.prog 163 #[.pointer (some ⟨p,0,none⟩),.int .i64 (11-(m:Int)),.int .i64 (d:Int)] w (Qkc p L (.lvl m) d i dp gr dv w)
theorem Qrn{L:List (Int × ByteArray × Int)}{W:Wh}{d i:Nat}{q:RvT}(h:Rd L W d i (some q))(hk:okW W)(hl:QQn W=false):i<q.2.1:=by
 obtain⟨r,hr,h2⟩:=Qsf L _ W d i hk (Nat.le_refl _)
 have e:=Rd.det h ⟨_,hr⟩
 exact(h2 q e.symm).2 hl
theorem QAo{w1:World}{p:Nat}{L:List (Int × ByteArray × Int)}{i:Nat}{dp gr dv:Bool}(h:QKa w1 p L i false dp gr dv)(hi:i+1≤L.length)(n m:Nat)(x y:Bool) :
 QKa (((((w1.drewN n).setCell ⟨p,3,none⟩ (.bool x)).drewN m).setCell ⟨p,4,none⟩ (.bool y)).setCell ⟨p,1,none⟩ (.int .i64 ((i:Int)+1))) p L (i+1) false x y dv∧
  Qaa (fun b=>b=p) w1 (((((w1.drewN n).setCell ⟨p,3,none⟩ (.bool x)).drewN m).setCell ⟨p,4,none⟩ (.bool y)).setCell ⟨p,1,none⟩ (.int .i64 ((i:Int)+1))):=by
 obtain⟨a1,b1⟩:=(h.keeps (Qda w1 n)).put 3 (.bool x) (i':=i) (syn':=false) (dp':=x) (gr':=gr) (dv':=dv) (by omega) (fun _=>rfl)
 obtain⟨a2,b2⟩:=(a1.keeps (Qda _ m)).put 4 (.bool y) (i':=i) (syn':=false) (dp':=x) (gr':=y) (dv':=dv) (by omega) (fun _=>rfl)
 obtain⟨a3,b3⟩:=a2.next hi
 refine⟨a3,?_⟩
 have k1:=((Qda w1 n).mono (S:=fun b=>b=p) (fun _ _ e=>e.elim)).trans b1 (fun _ _ e=>e)
 have k2:=(k1.trans ((Qda _ m).mono (S:=fun b=>b=p) (fun _ _ e=>e.elim)) (fun _ _ e=>e)).trans b2 (fun _ _ e=>e)
 exact k2.trans b3 (fun _ _ e=>e)
theorem QEd{w w1:World}{p:Nat}{L:List (Int × ByteArray × Int)}{i d:Nat}{dp gr dv:Bool}{x:Int}(h:QKa w1 p L i false dp gr dv)(k:Qaa (fun b=>b=p) w w1)(hi:i+1≤L.length)(gz:Rd L .opnd d i (some (x % 4294967296,i+1,decide (8<d),decide (x<0) || decide (4294967295<x),false)))(n m:Nat)(X Y:Bool)(hX:X=(dp || decide (8<d)))(hY:Y=(gr || (decide (x<0) || decide (4294967295<x)))) :
 Qkc p L .opnd d i dp gr dv w (.returned (.int .u32 (x % 4294967296))) (((((w1.drewN n).setCell ⟨p,3,none⟩ (.bool X)).drewN m).setCell ⟨p,4,none⟩ (.bool Y)).setCell ⟨p,1,none⟩ (.int .i64 ((i:Int)+1))):=by
 obtain⟨a,b⟩:=QAo h hi n m X Y
 refine⟨_,_,gz,rfl,by omega,by omega,k.trans b (fun _ _ e=>e),fun _=>rfl,?_⟩
 rw[Bool.or_false,←hX,←hY]
 exact a
set_option maxRecDepth 100000 in
theorem Qcj(p:Nat)(L:List (Int × ByteArray × Int))(i:Nat)(w:World)(d:Nat)(dp gr dv:Bool)(hd:d≤i)(h:QKa w p L i false dp gr dv)(hu:unB (Qwa L i)=false)(hs:Qwa L i≠⟨#[40]⟩) :
 Calls Tryz.prog 153 #[.pointer (some ⟨p,0,none⟩),.int .i64 (d:Int)] w (Qkc p L .opnd d i dp gr dv w):=by
 have Hf:=hid (Qie p L i false dp gr dv w h)
 have n40:((Qwa L i).toList == [40])=false:=by rw[beq_eq_false_iff_ne];intro e;exact hs (Q3b e)
 have n45:((Qwa L i).toList == [45])=false:=by rw[beq_eq_false_iff_ne];intro e;rw[Q3b (l:=[45]) e]at hu;cases hu
 have n126:((Qwa L i).toList == [126])=false:=by rw[beq_eq_false_iff_ne];intro e;rw[Q3b (l:=[126]) e]at hu;cases hu
 have n33:((Qwa L i).toList == [33])=false:=by rw[beq_eq_false_iff_ne];intro e;rw[Q3b (l:=[33]) e]at hu;cases hu
 obtain⟨_,_,_,_,_,_,_,_,_,_,_,Jq,JS⟩:=h.cells
 have HS:=hid hs
 have HU:=hid hu
 unfold Qhc at Hf
 have hdI:(d:Int)≤1000000000:=by omega
 clear hs hu h
 obtain⟨t,ht⟩:∃t,t=Qwa L i:=⟨_,rfl⟩
 rw[←ht]at Hf n40 n45 n126 n33
 clear ht
 go_enter Tryz.func153,Tryz.ntmps153
 go_wp2_with fail
 refine(by exact Hf.out:Calls _ _ _ _ _).mono ?_
 rintro e w1 ⟨rfl,Hz,Ht⟩
 have Gg:=hid (Ht.mono (S:=fun b=>b=p) (fun _ _ e=>e.elim))
 have Gq:=hid Hz
 obtain⟨c1,c2,c3,c4,c5,f1,f2,f3,f4,f5,cl,_,_⟩:=Hz.cells
 obtain⟨lv,hH,⟨a,cap,rfl,Ge,ms⟩,_⟩:=Hz
 have c0:=hH.cell 0
 have gh:=hid ms
 clear hH ms Ge Ht
 have Hi:(∀t,L[i]? = some t→t.1≠2)→Rd L .opnd d i none:=fun hb=>Qyh HU.out (Qxf HS.out hb)
 have Jz:=hid Hi
 clear Hi
 by_cases Hj:i<L.length
 ·have mW:(i:Int)<(L.length:Int):=by omega
  have kY:¬((L.length:Int)≤(i:Int)):=by omega
  obtain⟨gt,ot,rfl,_,hc⟩:=gh.out (by omega)
  obtain⟨d0,d1,d2⟩:=hc i Hj
  have GY:=hid (show L[i]? = some L[i]from List.getElem?_eq_getElem Hj)
  by_cases hk:L[i].1=2
  ·have kB:=hid (Qyh HU.out (Qsi (d:=d) HS.out GY.out hk))
   rw[hk]at d0
   clear hc d1 hk Jz GY
   generalize L[i].2.2=x at *
   cases dp with
   | true=>
    cases gr with
    | true=>
     go_wp2_with fail
     go_quiet (fail)
     go_wp2_with fail
     go_quiet (fail)
     go_wp2_with fail
     go_ret
     exact QEd Gq.out Gg.out (by omega) kB.out _ _ true true (by rfl) (by rfl)
    | false=>
     by_cases mj:x<0
     ·go_wp2_with fail
      go_quiet (fail)
      go_wp2_with fail
      go_quiet (fail)
      go_wp2_with fail
      go_ret
      exact QEd Gq.out Gg.out (by omega) kB.out _ _ true true (by rfl) (by rw[decide_eq_true mj];rfl)
     ·by_cases kJ:4294967295<x
      ·go_wp2_with fail
       go_quiet (fail)
       go_wp2_with fail
       go_quiet (fail)
       go_wp2_with fail
       go_ret
       exact QEd Gq.out Gg.out (by omega) kB.out _ _ true true (by rfl) (by rw[decide_eq_true kJ];simp)
      ·go_wp2_with fail
       go_quiet (fail)
       go_wp2_with fail
       go_quiet (fail)
       go_wp2_with fail
       go_ret
       have gV:=fun a b=>QEd Gq.out Gg.out (by omega) kB.out a b true (decide (x<0) || decide ((4294967295:Int)<x)) (by rfl) (by rfl)
       rw[show x % 4294967296=x from by omega]at gV
       exact gV _ _
   | false=>
    cases gr with
    | true=>
     go_wp2_with fail
     go_quiet (fail)
     go_wp2_with fail
     go_quiet (fail)
     go_wp2_with fail
     go_ret
     exact QEd Gq.out Gg.out (by omega) kB.out _ _ (decide ((8:Int)<(d:Int))) true (by rw[Bool.false_or];exact decide_eq_decide.2 (by omega)) (by rfl)
    | false=>
     by_cases mj:x<0
     ·go_wp2_with fail
      go_quiet (fail)
      go_wp2_with fail
      go_quiet (fail)
      go_wp2_with fail
      go_ret
      exact QEd Gq.out Gg.out (by omega) kB.out _ _ (decide ((8:Int)<(d:Int))) true (by rw[Bool.false_or];exact decide_eq_decide.2 (by omega)) (by rw[decide_eq_true mj];rfl)
     ·by_cases kJ:4294967295<x
      ·go_wp2_with fail
       go_quiet (fail)
       go_wp2_with fail
       go_quiet (fail)
       go_wp2_with fail
       go_ret
       exact QEd Gq.out Gg.out (by omega) kB.out _ _ (decide ((8:Int)<(d:Int))) true (by rw[Bool.false_or];exact decide_eq_decide.2 (by omega)) (by rw[decide_eq_true kJ];simp)
      ·go_wp2_with fail
       go_quiet (fail)
       go_wp2_with fail
       go_quiet (fail)
       go_wp2_with fail
       go_ret
       have gV:=fun a b=>QEd Gq.out Gg.out (by omega) kB.out a b (decide ((8:Int)<(d:Int))) (decide (x<0) || decide ((4294967295:Int)<x)) (by rw[Bool.false_or];exact decide_eq_decide.2 (by omega)) (by rfl)
       rw[show x % 4294967296=x from by omega]at gV
       exact gV _ _
  ·have kA:(L[i].1 != 2)=true:=by simpa using hk
   have HN:=hid (Jz.out (fun t e=>by rw[GY.out]at e;cases e;exact hk))
   clear hc d1 d2 hk GY Jz
   generalize L[i].1=kd at *
   go_wp2_with fail
   go_quiet (fail)
   go_wp2_with fail
   go_ret
   obtain⟨h2,h3⟩:=(Gq.out.keeps (Qda _ _)).put 2 (.bool true) (i':=i) (syn':=true) (dp':=dp) (gr':=gr) (dv':=dv) (by omega) (fun _=>rfl)
   exact⟨none,0,HN.out,rfl,by omega,by omega,(Gg.out.trans ((Qda _ _).mono (S:=fun b=>b=p) (fun _ _ e=>e.elim)) (fun _ _ e=>e)).trans h3 (fun _ _ e=>e),_,_,_,_,h2⟩
 ·have mW:¬(i:Int)<(L.length:Int):=by omega
  have kY:(L.length:Int)≤(i:Int):=by omega
  have HN:=hid (Jz.out (fun t e=>by rw[List.getElem?_eq_none (by omega)]at e;cases e))
  clear Jz
  go_wp2_with fail
  go_quiet (fail)
  go_wp2_with fail
  go_ret
  obtain⟨h2,h3⟩:=(Gq.out.keeps (Qda _ _)).put 2 (.bool true) (i':=i) (syn':=true) (dp':=dp) (gr':=gr) (dv':=dv) (by omega) (fun _=>rfl)
  exact⟨none,0,HN.out,rfl,by omega,by omega,(Gg.out.trans ((Qda _ _).mono (S:=fun b=>b=p) (fun _ _ e=>e.elim)) (fun _ _ e=>e)).trans h3 (fun _ _ e=>e),_,_,_,_,h2⟩
theorem QYp{p:Nat}{L:List (Int × ByteArray × Int)}{i d:Nat}{dp gr dv:Bool}{w w1 w2:World}{v:Int}(hu:unB (Qwa L i)=true)(k:Qaa (fun x=>x=p) w w1)(h:Qkc p L .opnd d (i+1) dp gr dv w1 (.returned (.int .u32 v)) w2) :
 Qkc p L .opnd d i dp gr dv w (.returned (.int .u32 (unT (Qwa L i) v))) w2:=by
 obtain⟨r,u,hr,e,h0,h1,kk,hm⟩:=h
 obtain rfl:v=u:=by injection e with e;injection e
 obtain⟨b0,b1⟩:=QFi (Qwa L i) v h0 h1
 refine⟨_,_,Q0o hu hr,rfl,b0,b1,k.trans kk (fun _ _ e=>e),?_⟩
 cases r with
 | none=>exact hm
 | some q=>exact⟨fun e=>by rw[hm.1 e],hm.2⟩
theorem Qkc.val{p:Nat}{L:List (Int × ByteArray × Int)}{W:Wh}{i d:Nat}{dp gr dv:Bool}{w w':World}{e:Ending}(h:Qkc p L W d i dp gr dv w e w'):∃v:Int,e = .returned (.int .u32 v)∧0≤v∧v≤4294967295∧Qaa (fun x=>x=p) w w':=by
 obtain⟨r,u,_,e,h0,h1,kk,_⟩:=h
 exact⟨u,e,h0,h1,kk⟩
set_option maxRecDepth 100000 in
theorem Quk(p:Nat)(L:List (Int × ByteArray × Int))(i:Nat)(hO:i+1≤L.length→OC p L (i+1))(w:World)(d:Nat)(dp gr dv:Bool)(hd:d≤i)(h:QKa w p L i false dp gr dv)(hu:unB (Qwa L i)=true) :
 Calls Tryz.prog 153 #[.pointer (some ⟨p,0,none⟩),.int .i64 (d:Int)] w (Qkc p L .opnd d i dp gr dv w):=by
 have Hf:=Qie p L i false dp gr dv w h
 unfold Qhc at Hf
 have hn:i+1≤L.length:=QQc (by intro e;rw[e]at hu;cases hu)
 have HO:=hid (hO hn)
 obtain⟨_,_,_,_,_,_,_,_,_,_,_,Jq,JS⟩:=h.cells
 have HU:=hid (fun(w1 w2:World) (v:Int) (k:Qaa (fun x=>x=p) w w1) (ho:Qkc p L .opnd d (i+1) dp gr dv w1 (.returned (.int .u32 v)) w2)=>QYp (w:=w) hu k ho)
 have hdI:(d:Int)≤1000000000:=by omega
 clear hO h
 rcases QMh hu with hs|hs|hs
 ·rw[hs]at Hf HU
  have G7:=hid Hf
  clear Hf hs hu
  go_enter Tryz.func153,Tryz.ntmps153
  go_wp2_with fail
  refine(by exact G7.out:Calls _ _ _ _ _).mono ?_
  rintro e w1 ⟨rfl,Hz,Ht⟩
  have Gg:=hid (Ht.mono (S:=fun b=>b=p) (fun _ _ e=>e.elim))
  have Gq:=hid Hz
  obtain⟨c1,_,_,_,_,f1,_,_,_,_,cl,_,_⟩:=Hz.cells
  clear Hz Ht
  go_wp2_with fail
  refine(by exact HO.out _ d dp gr dv (by omega) (Gq.out.next hn).1:Calls _ _ _ _ _).mono ?_
  rintro e w2 ho
  obtain⟨v,rfl,v0,v1,_⟩:=ho.val
  have bj:=hid ho
  clear ho
  go_wp2_with fail
  go_ret
  exact HU.out _ _ _ (Gg.out.trans (Gq.out.next hn).2 (fun _ _ e=>e)) bj.out
 ·rw[hs]at Hf HU
  have G7:=hid Hf
  clear Hf hs hu
  go_enter Tryz.func153,Tryz.ntmps153
  go_wp2_with fail
  refine(by exact G7.out:Calls _ _ _ _ _).mono ?_
  rintro e w1 ⟨rfl,Hz,Ht⟩
  have Gg:=hid (Ht.mono (S:=fun b=>b=p) (fun _ _ e=>e.elim))
  have Gq:=hid Hz
  obtain⟨c1,_,_,_,_,f1,_,_,_,_,cl,_,_⟩:=Hz.cells
  clear Hz Ht
  go_wp2_with fail
  refine(by exact HO.out _ d dp gr dv (by omega) (Gq.out.next hn).1:Calls _ _ _ _ _).mono ?_
  rintro e w2 ho
  obtain⟨v,rfl,v0,v1,_⟩:=ho.val
  have bj:=hid ho
  clear ho
  go_wp2_with fail
  go_ret
  have Hh:=HU.out _ _ _ (Gg.out.trans (Gq.out.next hn).2 (fun _ _ e=>e)) bj.out
  rw[Qzj v v0 v1]
  exact Hh
 ·rw[hs]at Hf HU
  have G7:=hid Hf
  clear Hf hs hu
  go_enter Tryz.func153,Tryz.ntmps153
  go_wp2_with fail
  refine(by exact G7.out:Calls _ _ _ _ _).mono ?_
  rintro e w1 ⟨rfl,Hz,Ht⟩
  have Gg:=hid (Ht.mono (S:=fun b=>b=p) (fun _ _ e=>e.elim))
  have Gq:=hid Hz
  obtain⟨c1,_,_,_,_,f1,_,_,_,_,cl,_,_⟩:=Hz.cells
  clear Hz Ht
  go_wp2_with fail
  refine(by exact HO.out _ d dp gr dv (by omega) (Gq.out.next hn).1:Calls _ _ _ _ _).mono ?_
  rintro e w2 ho
  obtain⟨v,rfl,v0,v1,_⟩:=ho.val
  have bj:=hid ho
  clear ho
  go_wp2_with fail
  refine(QZb _ _).mono ?_
  rintro e w' ⟨rfl,rfl⟩
  go_wp2_with fail
  go_ret
  exact HU.out _ _ _ (Gg.out.trans (Gq.out.next hn).2 (fun _ _ e=>e)) bj.out
theorem QCo{p:Nat}{L:List (Int × ByteArray × Int)}{i d:Nat}{dp gr dv:Bool}{w w1 w2 w3:World}{v:Int}(hs:Qwa L i=⟨#[40]⟩)(k:Qaa (fun x=>x=p) w w1)(h:Qkc p L .whole (d+1) (i+1) dp gr dv w1 (.returned (.int .u32 v)) w2)
 (hk:Qaa (fun x=>x=p) w2 w3) (hb:(∃j dp' gr' dv',QKa w2 p L j true dp' gr' dv')→∃j dp' gr' dv',QKa w3 p L j true dp' gr' dv')
 (ht:∀j dp' gr' dv',QKa w2 p L j false dp' gr' dv'→(Qwa L j=⟨#[41]⟩→QKa w3 p L (j+1) false dp' gr' dv')∧(Qwa L j≠⟨#[41]⟩→QKa w3 p L j true dp' gr' dv')) :
 Qkc p L .opnd d i dp gr dv w (.returned (.int .u32 v)) w3:=by
 have hu:unB (Qwa L i)=false:=by rw[hs];decide
 obtain⟨r,u,hr,e,h0,h1,kk,hm⟩:=h
 obtain rfl:v=u:=by injection e with e;injection e
 have ko:=(k.trans kk (fun _ _ e=>e)).trans hk (fun _ _ e=>e)
 cases r with
 | none=>exact⟨none,v,Qyh hu (Q7f hs hr),rfl,h0,h1,ko,hb hm⟩
 | some q=>
  obtain⟨hv,ha⟩:=hm
  obtain⟨t1,t2⟩:=ht _ _ _ _ ha
  by_cases hc:Qwa L q.2.1=⟨#[41]⟩
  ·exact⟨some (q.1,q.2.1+1,q.2.2),v,Qyh hu (QZl hs hr hc),rfl,h0,h1,ko,hv,t1 hc⟩
  ·exact⟨none,v,Qyh hu (QSg hs hr hc),rfl,h0,h1,ko,_,_,_,_,t2 hc⟩
set_option maxRecDepth 100000 in
theorem Qdj(p:Nat)(L:List (Int × ByteArray × Int))(i:Nat)(hW:i+1≤L.length→WC p L (i+1))(w:World)(d:Nat)(dp gr dv:Bool)(hd:d≤i)(h:QKa w p L i false dp gr dv)(hs:Qwa L i=⟨#[40]⟩) :
 Calls Tryz.prog 153 #[.pointer (some ⟨p,0,none⟩),.int .i64 (d:Int)] w (Qkc p L .opnd d i dp gr dv w):=by
 have Hf:=Qie p L i false dp gr dv w h
 unfold Qhc at Hf
 have hn:i+1≤L.length:=QQc (by rw[hs];intro e;cases e)
 have HW:=hid (hW hn)
 obtain⟨_,_,_,_,_,_,_,_,_,_,_,Jq,JS⟩:=h.cells
 have HS:=hid hs
 have hdI:(d:Int)≤1000000000:=by omega
 rw[hs]at Hf
 have G7:=hid Hf
 clear hW h hs Hf
 go_enter Tryz.func153,Tryz.ntmps153
 go_wp2_with fail
 refine(by exact G7.out:Calls _ _ _ _ _).mono ?_
 rintro e w1 ⟨rfl,Hz,Ht⟩
 have Gg:=hid (Ht.mono (S:=fun b=>b=p) (fun _ _ e=>e.elim))
 have Gq:=hid Hz
 obtain⟨c1,_,_,_,_,f1,_,_,_,_,cl,_,_⟩:=Hz.cells
 clear Hz Ht
 go_wp2_with fail
 refine(by exact HW.out _ (d+1) dp gr dv (by omega) (Gq.out.next hn).1:Calls _ _ _ _ _).mono ?_
 rintro e w2 ho
 obtain⟨v,rfl,v0,v1,_⟩:=ho.val
 obtain⟨j,syn',dp',gr',dv',ha⟩:∃j syn' dp' gr' dv',QKa w2 p L j syn' dp' gr' dv':=by
  obtain⟨r,_,_,_,_,_,_,hm⟩:=ho
  cases r with
  | none=>obtain⟨j,a,b,c,h⟩:=hm;exact⟨j,true,a,b,c,h⟩
  | some q=>exact⟨_,_,_,_,_,hm.2⟩
 have bj:=hid ho
 have HA:=hid ha
 clear ho ha
 go_wp2_with fail
 refine(QOl p L j syn' dp' gr' dv' ⟨#[41]⟩ w2 HA.out (by intro e;cases e)).mono ?_
 rintro e w3 ⟨rfl,Hc,t1,t2⟩
 have Hy:=hid Hc
 have T:=hid (And.intro t1 t2)
 clear Hc t1 t2
 go_wp2_with fail
 go_ret
 have same:∀j2 syn2 dp2 gr2 dv2,QKa w2 p L j2 syn2 dp2 gr2 dv2→j=j2∧syn'=syn2∧dp'=dp2∧gr'=gr2∧dv'=dv2:=by
  intro j2 syn2 dp2 gr2 dv2 h2
  obtain⟨a1,a2,a3,a4,a5,_⟩:=HA.out.cells
  obtain⟨b1,b2,b3,b4,b5,_⟩:=h2.cells
  rw[a1]at b1;rw[a2]at b2;rw[a3]at b3;rw[a4]at b4;rw[a5]at b5
  injection b1 with b1;injection b1 with _ b1
  injection b2 with b2;injection b2 with b2
  injection b3 with b3;injection b3 with b3
  injection b4 with b4;injection b4 with b4
  injection b5 with b5;injection b5 with b5
  exact⟨by omega,b2,b3,b4,b5⟩
 refine QCo HS.out (Gg.out.trans (Gq.out.next hn).2 (fun _ _ e=>e)) bj.out Hy.out ?_ ?_
 ·rintro ⟨j2,a,b,c,h2⟩
  obtain⟨_,rfl,_⟩:=same _ _ _ _ _ h2
  by_cases hc:Qwa L j=⟨#[41]⟩
  ·exact⟨_,_,_,_,T.out.1 hc⟩
  ·exact⟨_,_,_,_,T.out.2 hc⟩
 ·intro j2 a b c h2
  obtain⟨rfl,rfl,rfl,rfl,rfl⟩:=same _ _ _ _ _ h2
  exact T.out
theorem QPg(p:Nat)(L:List (Int × ByteArray × Int))(i:Nat)(hO:i+1≤L.length→OC p L (i+1))(hW:i+1≤L.length→WC p L (i+1)):OC p L i:=by
 intro w d dp gr dv hd h
 cases hu:unB (Qwa L i)with
 | true=>exact Quk p L i hO w d dp gr dv hd h hu
 | false=>
  by_cases hs:Qwa L i=⟨#[40]⟩
  ·exact Qdj p L i hW w d dp gr dv hd h hs
  ·exact Qcj p L i w d dp gr dv hd h hu hs
def Qxo:Nat→ByteArray
 | 1=>⟨#[42]⟩|2=>⟨#[47]⟩|3=>⟨#[37]⟩|4=>⟨#[43]⟩|5=>⟨#[45]⟩|6=>⟨#[60,60]⟩|7=>⟨#[62,62]⟩|8=>⟨#[60]⟩|9=>⟨#[62]⟩|10=>⟨#[60,61]⟩|11=>⟨#[62,61]⟩|12=>⟨#[61,61]⟩|13=>⟨#[33,61]⟩|14=>⟨#[38]⟩|15=>⟨#[94]⟩|16=>⟨#[124]⟩|17=>⟨#[38,38]⟩|18=>⟨#[124,124]⟩
 | _=>⟨#[]⟩
theorem Qnk:∀k,k<10→∀p∈Q1b.getD k [],p.1=Qxo p.2:=by decide
theorem Q4l{k:Nat}(hk:k<10){s:ByteArray}{f:Nat}(h:Q7b k s=some f):s=Qxo f:=by
 unfold Q7b at h
 obtain⟨p,hp,e⟩:=Option.map_eq_some_iff.1 h
 have h1:=List.mem_of_find?_eq_some hp
 have h2:=List.find?_some hp
 simp only[decide_eq_true_eq]at h2
 rw[←h2,←e]
 exact Qnk k hk p h1
theorem Qon(p:Nat)(L:List (Int × ByteArray × Int))(i:Nat)(syn dp gr dv:Bool)(f:Nat)(h1:1≤f)(h2:f≤18)(a b:Int)(w:World)(h:QKa w p L i syn dp gr dv)(ha:0≤a)(Hv:a≤4294967295)(hb:0≤b)(He:b≤4294967295) :
 Calls Tryz.prog 185 #[.pointer (some ⟨p,0,none⟩),.string (Qxo f),.int .u32 a,.int .u32 b] w (Q8a p L i syn dp gr dv f a b w):=by
 match f,h1,h2 with
 | 1,_,_=>exact QKo p L i syn dp gr dv a b w h ha Hv hb He
 | 2,_,_=>exact QLo p L i syn dp gr dv a b w h ha Hv hb He
 | 3,_,_=>exact QMo p L i syn dp gr dv a b w h ha Hv hb He
 | 4,_,_=>exact QNo p L i syn dp gr dv a b w h ha Hv hb He
 | 5,_,_=>exact QOo p L i syn dp gr dv a b w h ha Hv hb He
 | 6,_,_=>exact QPo p L i syn dp gr dv a b w h ha Hv hb He
 | 7,_,_=>exact QQo p L i syn dp gr dv a b w h ha Hv hb He
 | 8,_,_=>exact QRo p L i syn dp gr dv a b w h ha Hv hb He
 | 9,_,_=>exact QSo p L i syn dp gr dv a b w h ha Hv hb He
 | 10,_,_=>exact Qfn p L i syn dp gr dv a b w h ha Hv hb He
 | 11,_,_=>exact Qgn p L i syn dp gr dv a b w h ha Hv hb He
 | 12,_,_=>exact Qhn p L i syn dp gr dv a b w h ha Hv hb He
 | 13,_,_=>exact Qin p L i syn dp gr dv a b w h ha Hv hb He
 | 14,_,_=>exact Qjn p L i syn dp gr dv a b w h ha Hv hb He
 | 15,_,_=>exact Qkn p L i syn dp gr dv a b w h ha Hv hb He
 | 16,_,_=>exact Qln p L i syn dp gr dv a b w h ha Hv hb He
 | 17,_,_=>exact Qmn p L i syn dp gr dv a b w h ha Hv hb He
 | 18,_,_=>exact Qnn p L i syn dp gr dv a b w h ha Hv hb He
 | 0,h,_=>omega
 | _+19,_,h=>omega
def QPk(p:Nat)(L:List (Int × ByteArray × Int))(m d i:Nat)(dp gr dv:Bool)(v:Int)(syn:Bool)(j:Nat)(w:World):Prop:=
 0≤v∧v≤4294967295∧if syn=true then Rd L (.lvl m) d i none∧∃dp' gr' dv',QKa w p L j true dp' gr' dv'
  else ∃(v0:Int) (F:Bool × Bool × Bool),i≤j∧(F.2.2=false→v=v0)∧(∀r,LsR L m d 0 v0 j r→Rd L (.lvl m) d i (r.map (orQ F)))∧QKa w p L j false (dp || F.1) (gr || F.2.1) (dv || F.2.2)
section
variable{p:Nat}{L:List (Int × ByteArray × Int)}{m d i j:Nat}{dp gr dv syn:Bool}{w w':World}{v:Int}
theorem QPk.keeps(h:QPk p L m d i dp gr dv v syn j w)(k:Qaa (fun _=>False) w w'):QPk p L m d i dp gr dv v syn j w':=by
 unfold QPk at h ⊢
 refine⟨h.1,h.2.1,?_⟩
 cases syn with
 | true=>obtain⟨hr,a,b,c,h2⟩:=h.2.2;exact⟨hr,a,b,c,h2.keeps k⟩
 | false=>obtain⟨v0,F,h0,h1,h2,h3⟩:=h.2.2;exact⟨v0,F,h0,h1,h2,h3.keeps k⟩
theorem QPk.prs(h:QPk p L m d i dp gr dv v syn j w):∃dp' gr' dv',QKa w p L j syn dp' gr' dv':=by
 cases syn with
 | true=>exact h.2.2.2
 | false=>obtain⟨v0,F,_,_,_,h3⟩:=h.2.2;exact⟨_,_,_,h3⟩
theorem Qam{e:Ending}(h:Qkc p L .opnd d i dp gr dv w e w'):∃v syn j,e = .returned (.int .u32 v)∧QPk p L m d i dp gr dv v syn j w':=by
 obtain⟨r,v,hr,rfl,h0,h1,_,hm⟩:=h
 cases r with
 | none=>
  obtain⟨j,a,b,c,hj⟩:=hm
  have h2:=Q3e (Q6f hr) m
  rw[Nat.zero_add]at h2
  exact⟨v,true,j,rfl,h0,h1,h2,a,b,c,hj⟩
 | some q=>
  have hq:=Qrn hr (by trivial) rfl
  refine⟨v,false,q.2.1,rfl,h0,h1,q.1,q.2.2,by omega,hm.1,?_,hm.2⟩
  intro r hl
  exact QHp hl (Q6f hr)
theorem Q2j(h:QPk p L m d i dp gr dv v false j w')(k:Qaa (fun x=>x=p) w w')(hn:NoR L m j):Qkc p L (.lvl m) d i dp gr dv w (.returned (.int .u32 v)) w':=by
 obtain⟨h0,h1,v0,F,_,hv,hb,ha⟩:=h
 have h2:=hb _ (QGp hn)
 have e:(some (v0,j,noF)).map (orQ F)=some (v0,j,F):=by show some (v0,j,orF F noF)=_;rw[QGl]
 rw[e]at h2
 exact⟨_,v,h2,rfl,h0,h1,k,hv,ha⟩
theorem Qyn(h:QPk p L m d i dp gr dv v true j w')(k:Qaa (fun x=>x=p) w w'):Qkc p L (.lvl m) d i dp gr dv w (.returned (.int .u32 v)) w':=by
 obtain⟨h0,h1,hr,a,b,c,ha⟩:=h
 exact⟨none,v,hr,rfl,h0,h1,k,j,a,b,c,ha⟩
theorem Qzn{w1 w2 w3:World}{q f j2:Nat}{u:Int}{syn2:Bool}{dp2 gr2 dv2 a' b' c':Bool}(h:QPk p L m d i dp gr dv v false j w)(hq:q<m)(hm:m≤10)(hr:Q7b q (Qwa L j)=some f)(hn:NoR L q j)
 (hy:Qkc p L (.lvl q) d (j+1) (dp2) (gr2) (dv2) w1 (.returned (.int .u32 u)) w2) (hp:QKa w p L j false dp2 gr2 dv2) (hp3:QKa w2 p L j2 syn2 a' b' c')
 (hz:QKa w3 p L j2 syn2 a' b' (c' || Qdb f u)) :
 QPk p L m d i dp gr dv (if Qdb f u=true then 0 else QPb f v u) syn2 j2 w3∧(syn2=false→j<j2):=by
 obtain⟨h0,h1,v0,F,GH,hv,hb,ha⟩:=h
 obtain⟨r,u',gz,e,u0,u1,_,bM⟩:=hy
 obtain rfl:u=u':=by injection e with e;injection e
 have same:∀{wx:World} {j1 j2:Nat} {s1 s2 a1 b1 c1 a2 b2 c2:Bool},QKa wx p L j1 s1 a1 b1 c1→QKa wx p L j2 s2 a2 b2 c2→j1=j2∧s1=s2∧a1=a2∧b1=b2∧c1=c2:=by
  intro wx j1 j2 s1 s2 a1 b1 c1 a2 b2 c2 x1 x2
  obtain⟨a1,a2,a3,a4,a5,_⟩:=x1.cells
  obtain⟨b1,b2,b3,b4,b5,_⟩:=x2.cells
  rw[a1]at b1;rw[a2]at b2;rw[a3]at b3;rw[a4]at b4;rw[a5]at b5
  injection b1 with b1;injection b1 with _ b1
  injection b2 with b2;injection b2 with b2
  injection b3 with b3;injection b3 with b3
  injection b4 with b4;injection b4 with b4
  injection b5 with b5;injection b5 with b5
  exact⟨by omega,b2,b3,b4,b5⟩
 obtain⟨_,_,rfl,rfl,rfl⟩:=same hp ha
 have Hm:0≤(if Qdb f u=true then 0 else QPb f v u)∧(if Qdb f u=true then 0 else QPb f v u)≤4294967295:=by
  split
  ·omega
  ·exact QEa f v u h0 h1 u0 u1
 cases r with
 | none=>
  obtain⟨j3,a,b,c,hj⟩:=bM
  obtain⟨rfl,rfl,rfl,rfl,rfl⟩:=same hp3 hj
  have h2:=hb none (QFp hq hr hn gz)
  exact⟨⟨Hm.1,Hm.2,h2,_,_,_,hz⟩,fun e=>by cases e⟩
 | some y=>
  obtain⟨hu,hj⟩:=bM
  obtain⟨rfl,rfl,rfl,rfl,rfl⟩:=same hp3 hj
  have Hj:=Qrn gz (show q≤10 by omega) rfl
  refine⟨⟨Hm.1,Hm.2,QPb f v0 (if Qdb f y.1=true then 1 else y.1),orF F (orF y.2.2 (false,false,Qdb f y.1)),by omega,?_,?_,?_⟩,fun _=>by omega⟩
  ·intro hf
   have hf':(F.2.2 || (y.2.2.2.2 || Qdb f y.1))=false:=hf
   rw[Bool.or_eq_false_iff,Bool.or_eq_false_iff]at hf'
   rw[hv hf'.1,hu hf'.2.1,hf'.2.2];rfl
  ·intro r hl
   have h2:=hb _ (Qto hq hr hn gz hl)
   rw[Q8i]at h2
   exact h2
  ·have h3:=hz
   have e1:(dp || F.1 || y.2.2.1)=(dp || (orF F (orF y.2.2 (false,false,Qdb f y.1))).1):=by show _=(dp || (F.1 || (y.2.2.1 || false)));rw[Bool.or_false,Bool.or_assoc]
   have e2:(gr || F.2.1 || y.2.2.2.1)=(gr || (orF F (orF y.2.2 (false,false,Qdb f y.1))).2.1):=by show _=(gr || (F.2.1 || (y.2.2.2.1 || false)));rw[Bool.or_false,Bool.or_assoc]
   have e3:(dv || F.2.2 || y.2.2.2.2 || Qdb f u)=(dv || (orF F (orF y.2.2 (false,false,Qdb f y.1))).2.2):=by
    show _=(dv || (F.2.2 || (y.2.2.2.2 || Qdb f y.1)))
    cases hyd:y.2.2.2.2 with
    | true=>simp
    | false=>rw[hu hyd,Bool.or_false,Bool.false_or,Bool.or_assoc]
   rw[e1,e2,e3]at h3
   exact h3
end
set_option maxRecDepth 100000 in
theorem QXn(p:Nat)(L:List (Int × ByteArray × Int))(i:Nat)(hO:OC p L i)(hR:∀j,i<j→j≤L.length→RC p L j):RC p L i:=by
 intro m w d dp gr dv hm hd h
 have HO:=hid (hO w d dp gr dv hd h)
 have HR:=hid hR
 obtain⟨_,_,_,_,_,_,_,_,_,_,_,Jq,JS⟩:=h.cells
 have hdI:(d:Int)≤1000000000:=by omega
 have hmI:(m:Int)≤10:=by omega
 have eP:∀q:Int,0≤q→q≤10→IntKind.i64.wrap (10-q+1)=11-q:=fun q h0 h1=>by rw[IntWalk.i64_in _ (by omega)];omega
 have tm:=hid eP
 clear hO hR h eP
 go_enter Tryz.func163,Tryz.ntmps163
 go_wp2_with fail
 refine(by exact HO.out:Calls _ _ _ _ _).mono ?_
 rintro e w1 GK
 obtain⟨v,syn,j,rfl,l8⟩:=Qam (m:=m) GK
 have KH:=hid l8
 obtain⟨_,_,_,_,Ht⟩:=GK.val
 have Gg:=hid Ht
 clear GK l8 Ht
 go_wp2_with fail
 go_loopg [7] (L.length+2) (fun f x wr=>∃(v:Int) (syn:Bool) (j:Nat),x = .int .u32 v∧Hid (QPk p L m d i dp gr dv v syn j wr)∧Hid (Qaa (fun b=>b=p) w wr)∧Hid (syn=false→L.length+1≤j+f))
 case atStart=>exact⟨v,syn,j,rfl,KH,Gg,hid (fun _=>by omega)⟩
 case round=>
  clear KH Gg
  obtain⟨v,syn,j,rfl,KH,HK,HF⟩:=hrel
  obtain⟨v0',v1',_⟩:=KH.out
  obtain⟨dp',gr',dv',ha⟩:=KH.out.prs
  obtain⟨c1,c2,_,_,_,f1,_,_,_,_,cl,bI,_⟩:=ha.cells
  have HA:=hid ha
  clear ha
  cases syn with
  | true=>
   go_wp2_with fail
   go_ret
   exact Qyn KH.out HK.out
  | false=>
   have hgk:1≤gk:=by have h2:=HF.out rfl;omega
   have Hf:=Qie p L j false dp' gr' dv' wr HA.out
   unfold Qhc at Hf
   obtain⟨t,ht⟩:∃t,t=Qwa L j:=⟨_,rfl⟩
   rw[←ht]at Hf
   have HT:=hid ht
   have G7:=hid Hf
   clear ht Hf
   go_wp2_with fail
   refine(by exact G7.out:Calls _ _ _ _ _).mono ?_
   rintro e w2 ⟨rfl,gG,Ho⟩
   go_wp2_with fail
   refine(QTo t _).mono ?_
   rintro e w3 ⟨R,rfl,l6,gv⟩
   have et:=Ho.trans (Qaa.of_fresh gv (fun _=>False)) (fun _ _ e=>e)
   have mY:=gG.keeps (Qaa.of_fresh gv (fun _=>False))
   obtain⟨d1,_,_,_,_,g1,_,_,_,_,dl,_,_⟩:=mY.cells
   have bm:=hid (KH.out.keeps et)
   have Hy:=hid (HK.out.trans (et.mono (S:=fun b=>b=p) (fun _ _ e=>e.elim)) (fun _ _ e=>e))
   have qY:=hid mY
   clear gG Ho gv et mY
   rcases l6 with⟨rfl,MO⟩|⟨q,f,hq,rfl,hr⟩
   ·have JI:=hid MO
    clear MO
    go_wp2_with fail
    go_ret
    exact Q2j bm.out Hy.out (fun t ht=>by rw[←HT.out];exact JI.out t (by omega))
   ·have mf:((10-(q:Int)) == 0)=false:=by rw[beq_eq_false_iff_ne];omega
    have uy:(q:Int)≤9:=by omega
    have bo:=hid hr
    clear hr
    by_cases hqm:q<m
    ·have Hj:¬(10-(q:Int)<11-(m:Int)):=by omega
     have ki:11-(m:Int)≤10-(q:Int):=by omega
     have hn:j+1≤L.length:=by
      refine QQc (L:=L) ?_
      intro e
      have h9:=bo.out
      rw[HT.out,e,QIe q hq]at h9
      cases h9
     obtain⟨nD,ab,_⟩:=QUg hq bo.out
     have aS:=hid (Q4l hq bo.out)
     have nS:=tm.out q (by omega) (by omega)
     go_wp2_with fail
     have GH:i≤j:=by obtain⟨_,_,_,_,h,_⟩:=bm.out;exact h
     obtain⟨gu,jS⟩:=qY.out.next hn
     refine(by exact HR.out (j+1) (by omega) hn q _ d dp' gr' dv' (by omega) (by omega) gu:Calls _ _ _ _ _).mono ?_
     rintro e w5 ho
     obtain⟨u,rfl,u0,u1,Hs⟩:=ho.val
     obtain⟨j2,syn2,a2,b2,x2,K7⟩:∃j2 syn2 a b c,QKa w5 p L j2 syn2 a b c:=by
      obtain⟨r,_,_,_,_,_,_,hm⟩:=ho
      cases r with
      | none=>obtain⟨j,a,b,c,h⟩:=hm;exact⟨j,true,a,b,c,h⟩
      | some y=>exact⟨_,_,_,_,_,hm.2⟩
     have kK:=Qon p L j2 syn2 a2 b2 x2 f nD ab v u w5 K7 v0' v1' u0 u1
     rw[←aS.out]at kK
     have sH:=hid kK
     have bj:=hid ho
     have mT:=hid K7
     have GS:=hid ((Hy.out.trans jS (fun _ _ e=>e)).trans Hs (fun _ _ e=>e))
     clear kK ho K7 Hs gu jS
     go_wp2_with fail
     refine(by exact sH.out:Calls _ _ _ _ _).mono ?_
     rintro e w6 ⟨rfl,jU,Hw⟩
     have lJ:NoR L q j:=by
      intro t2 fK
      cases hx:Q7b t2 (Qwa L j)with
      | none=>rfl
      | some f2=>
       have h9:=bo.out
       rw[HT.out]at h9
       have:=QTg hx h9 (by omega) hq
       omega
     have Hb:Q7b q (Qwa L j)=some f:=by rw[←HT.out];exact bo.out
     have M4:=Qzn bm.out hqm hm Hb lJ bj.out qY.out mT.out jU
     have ns:=hid M4
     have gC:=hid (GS.out.trans Hw (fun _ _ e=>e))
     clear M4 Hb lJ jU Hw
     generalize (if Qdb f u=true then(0:Int)else QPb f v u)=z at *
     go_wp2_with fail
     go_roundg (gk-1)
     case measure=>omega
     case rel=>exact⟨z,syn2,j2,rfl,hid ns.out.1,gC,hid (fun e=>by have h1:=ns.out.2 e;have h2:=HF.out (by simp);omega)⟩
    ·have Hj:(10-(q:Int)<11-(m:Int)):=by omega
     go_wp2_with fail
     go_ret
     refine Q2j bm.out Hy.out ?_
     intro t2 fK
     cases hx:Q7b t2 (Qwa L j)with
     | none=>rfl
     | some f2=>
      have h9:=bo.out
      rw[HT.out]at h9
      have:=QTg hx h9 (by omega) hq
      omega
theorem Qkc.split{p:Nat}{L:List (Int × ByteArray × Int)}{W:Wh}{i d:Nat}{dp gr dv:Bool}{w w':World}{e:Ending}(h:Qkc p L W d i dp gr dv w e w'):∃v,e = .returned (.int .u32 v)∧0≤v∧v≤4294967295∧Qaa (fun x=>x=p) w w'∧
 ((Rd L W d i none∧∃j a b c,QKa w' p L j true a b c)∨∃q:RvT,Rd L W d i (some q)∧(q.2.2.2.2=false→v=q.1)∧QKa w' p L q.2.1 false (dp || q.2.2.1) (gr || q.2.2.2.1) (dv || q.2.2.2.2)):=by
 obtain⟨r,v,hr,e,h0,h1,k,hm⟩:=h
 refine⟨v,e,h0,h1,k,?_⟩
 cases r with
 | none=>exact .inl ⟨hr,hm⟩
 | some q=>exact .inr ⟨q,hr,hm.1,hm.2⟩
set_option maxRecDepth 100000 in
theorem QTj(p:Nat)(L:List (Int × ByteArray × Int))(i:Nat)(hR:RC p L i)(hW:∀j,i<j→j≤L.length→WC p L j):WC p L i:=by
 intro w d dp gr dv hd h
 have hr:=hR 10 w d dp gr dv (by omega) hd h
 rw[show(11-((10:Nat):Int))=1 from by decide]at hr
 have HR:=hid hr
 have HW:=hid hW
 obtain⟨_,_,_,_,_,_,_,_,_,_,_,Jq,JS⟩:=h.cells
 have hdI:(d:Int)≤1000000000:=by omega
 clear hR hr hW h
 go_enter Tryz.func157,Tryz.ntmps157
 go_wp2_with fail
 refine(by exact HR.out:Calls _ _ _ _ _).mono ?_
 rintro e w1 ho
 obtain⟨x,rfl,x0,x1,Ht,hc⟩:=ho.split
 have Gg:=hid Ht
 clear ho Ht
 rcases hc with⟨hN,j,a,b,c,ha⟩|⟨q,gz,hv,ha⟩
 ·obtain⟨c1,c2,_,_,_,f1,_,_,_,_,cl,bI,_⟩:=ha.cells
  have HN:=hid (QGe hN)
  have HA:=hid ha
  clear hN ha
  go_wp2_with fail
  go_ret
  exact⟨none,x,HN.out,rfl,x0,x1,Gg.out,_,_,_,_,HA.out⟩
 ·have GH:i<q.2.1:=Qrn gz (show 10≤10 by omega) rfl
  obtain⟨j,hj⟩:∃j,j=q.2.1:=⟨_,rfl⟩
  rw[←hj]at ha GH
  obtain⟨c1,c2,_,_,_,f1,_,_,_,_,cl,bI,_⟩:=ha.cells
  have Hf:=Qie p L j false _ _ _ w1 ha
  unfold Qhc at Hf
  have kB:=hid gz
  have HV:=hid hv
  have HJ:=hid hj
  have HA:=hid ha
  clear gz hv hj ha
  by_cases hs:Qwa L j=⟨#[63]⟩
  ·have hn:j+1≤L.length:=QQc (by rw[hs];intro e;cases e)
   have HS:=hid (show Qwa L q.2.1=⟨#[63]⟩by rw[←HJ.out];exact hs)
   rw[hs]at Hf
   have G7:=hid Hf
   clear hs Hf
   go_wp2_with fail
   refine(by exact G7.out:Calls _ _ _ _ _).mono ?_
   rintro e w2 ⟨rfl,gG,Ho⟩
   obtain⟨d1,_,_,_,_,g1,_,_,_,_,dl,_,_⟩:=gG.cells
   have M9:=hid gG
   have Gs:=hid (Gg.out.trans (Ho.mono (S:=fun b=>b=p) (fun _ _ e=>e.elim)) (fun _ _ e=>e))
   clear gG Ho
   go_wp2_with fail
   obtain⟨gu,jS⟩:=M9.out.next hn
   refine(by exact HW.out (j+1) (by omega) hn _ d _ _ _ (by omega) gu:Calls _ _ _ _ _).mono ?_
   rintro e w3 ho
   obtain⟨y,rfl,y0,y1,Hc,hc⟩:=ho.split
   have Hy:=hid ((Gs.out.trans jS (fun _ _ e=>e)).trans Hc (fun _ _ e=>e))
   clear ho Hc gu jS
   rcases hc with⟨hN,j2,a2,b2,x2,K7⟩|⟨r,MG,aJ,K7⟩
   ·obtain⟨k1,k2,_,_,_,l1,_,_,_,_,kl,pW,_⟩:=K7.cells
    have HN:=hid (QRg kB.out HS.out (by rw[←HJ.out];exact hN))
    have mT:=hid K7
    clear hN K7
    go_wp2_with fail
    go_ret
    exact⟨none,0,HN.out,rfl,by omega,by omega,Hy.out,_,_,_,_,mT.out⟩
   ·have ep:j+1<r.2.1:=Qrn MG trivial rfl
    obtain⟨j2,Gf⟩:∃j,j=r.2.1:=⟨_,rfl⟩
    rw[←Gf]at K7 ep
    obtain⟨k1,k2,_,_,_,l1,_,_,_,_,kl,pW,_⟩:=K7.cells
    have GQ:=QOl p L j2 false _ _ _ ⟨#[58]⟩ w3 K7 (by intro e;cases e)
    have gh:=hid GQ
    have jq:=hid (show Rd L .whole d (q.2.1+1) (some r)by rw[←HJ.out];exact MG)
    have nu:=hid aJ
    have MT:=hid Gf
    have mT:=hid K7
    clear MG aJ Gf K7 GQ
    by_cases gE:Qwa L j2=⟨#[58]⟩
    ·have Ju:j2+1≤L.length:=QQc (by rw[gE];intro e;cases e)
     have KU:=hid gE
     clear gE
     go_wp2_with fail
     refine(by exact gh.out:Calls _ _ _ _ _).mono ?_
     rintro e w4 ⟨rfl,Hr,t1,_⟩
     have Mh:=t1 KU.out
     obtain⟨m1,m2,_,_,_,n1,_,_,_,_,ml,_,_⟩:=Mh.cells
     have oN:=hid Mh
     have gN:=hid (Hy.out.trans Hr (fun _ _ e=>e))
     clear Mh Hr t1
     go_wp2_with fail
     refine(by exact HW.out (j2+1) (by omega) Ju _ d _ _ _ (by omega) oN.out:Calls _ _ _ _ _).mono ?_
     rintro e w5 ho
     obtain⟨z,rfl,z0,z1,Hs,hc⟩:=ho.split
     have GS:=hid (gN.out.trans Hs (fun _ _ e=>e))
     have HC:=hid hc
     clear ho Hs hc
     have Hh:Qkc p L .whole d i dp gr dv w (.returned (.int .u32 (if x=0 then z else y))) w5:=by
      have hb:0≤(if x=0 then z else y)∧(if x=0 then z else y)≤4294967295:=by split <;> omega
      rcases HC.out with⟨hN,hE⟩|⟨s,hrd3,bX,dX⟩
      ·have h3:=QXl kB.out HS.out jq.out (by rw[←MT.out];exact KU.out) (by rw[←MT.out];exact hN)
       exact⟨none,_,h3,rfl,hb.1,hb.2,GS.out,hE⟩
      ·have h3:=QXl kB.out HS.out jq.out (by rw[←MT.out];exact KU.out) (by rw[←MT.out];exact hrd3)
       refine⟨_,_,h3,rfl,hb.1,hb.2,GS.out,?_,?_⟩
       ·intro hf
        have hf':((q.2.2.2.2 || r.2.2.2.2) || s.2.2.2.2)=false:=hf
        rw[Bool.or_eq_false_iff,Bool.or_eq_false_iff]at hf'
        rw[HV.out hf'.1.1,nu.out hf'.1.2,bX hf'.2]
       ·have e1:(dp || q.2.2.1 || r.2.2.1 || s.2.2.1)=(dp || ((q.2.2.1 || r.2.2.1) || s.2.2.1)):=by simp[Bool.or_assoc]
        have e2:(gr || q.2.2.2.1 || r.2.2.2.1 || s.2.2.2.1)=(gr || ((q.2.2.2.1 || r.2.2.2.1) || s.2.2.2.1)):=by simp[Bool.or_assoc]
        have e3:(dv || q.2.2.2.2 || r.2.2.2.2 || s.2.2.2.2)=(dv || ((q.2.2.2.2 || r.2.2.2.2) || s.2.2.2.2)):=by simp[Bool.or_assoc]
        rw[e1,e2,e3]at dX
        exact dX
     have Gr:=hid Hh
     clear Hh
     by_cases hx:x=0
     ·have om:=hid (show Qkc p L .whole d i dp gr dv w (.returned (.int .u32 z)) w5 by have:=Gr.out;rwa [if_pos hx]at this)
      subst hx
      go_wp2_with fail
      go_ret
      exact om.out
     ·have om:=hid (show Qkc p L .whole d i dp gr dv w (.returned (.int .u32 y)) w5 by have:=Gr.out;rwa [if_neg hx]at this)
      have aL:(x != 0)=true:=by rw[bne_iff_ne];exact hx
      go_wp2_with fail
      go_ret
      exact om.out
    ·have HN:=hid (Qri kB.out HS.out jq.out (by rw[←MT.out];exact gE))
     have KU:=hid gE
     clear gE
     go_wp2_with fail
     refine(by exact gh.out:Calls _ _ _ _ _).mono ?_
     rintro e w4 ⟨rfl,Hr,_,t2⟩
     have Mh:=t2 KU.out
     obtain⟨m1,m2,_,_,_,n1,_,_,_,_,ml,_,_⟩:=Mh.cells
     have oN:=hid Mh
     have gN:=hid (Hy.out.trans Hr (fun _ _ e=>e))
     clear Mh Hr t2
     go_wp2_with fail
     go_ret
     exact⟨none,0,HN.out,rfl,by omega,by omega,gN.out,_,_,_,_,oN.out⟩
  ·have n63:((Qwa L j).toList == [63])=false:=by rw[beq_eq_false_iff_ne];intro e;exact hs (Q3b e)
   have HS:=hid (show Qwa L q.2.1≠⟨#[63]⟩by rw[←HJ.out];exact hs)
   obtain⟨t,ht⟩:∃t,t=Qwa L j:=⟨_,rfl⟩
   rw[←ht]at Hf n63
   have G7:=hid Hf
   clear hs ht Hf
   go_wp2_with fail
   refine(by exact G7.out:Calls _ _ _ _ _).mono ?_
   rintro e w2 ⟨rfl,gG,Ho⟩
   have M9:=hid gG
   have Gs:=hid (Gg.out.trans (Ho.mono (S:=fun b=>b=p) (fun _ _ e=>e.elim)) (fun _ _ e=>e))
   clear gG Ho
   go_wp2_with fail
   go_ret
   exact⟨some q,x,Qyf kB.out HS.out,rfl,x0,x1,Gs.out,HV.out,by rw[←HJ.out];exact M9.out⟩
theorem QPp(p:Nat)(L:List (Int × ByteArray × Int)):∀n i,L.length-i≤n→OC p L i∧RC p L i∧WC p L i:=by
 intro n
 induction n with
 | zero=>
  intro i hi
  have hO:=QPg p L i (fun h=>by omega) (fun h=>by omega)
  have hR:=QXn p L i hO (fun j h1 h2=>by omega)
  exact⟨hO,hR,QTj p L i hR (fun j h1 h2=>by omega)⟩
 | succ n ih=>
  intro i hi
  have hO:=QPg p L i (fun h=>(ih (i+1) (by omega)).1) (fun h=>(ih (i+1) (by omega)).2.2)
  have hR:=QXn p L i hO (fun j h1 h2=>(ih j (by omega)).2.1)
  exact⟨hO,hR,QTj p L i hR (fun j h1 h2=>(ih j (by omega)).2.2)⟩
set_option maxRecDepth 100000 in
theorem QNl{w:World}{p:Nat}{L:List (Int × ByteArray × Int)}{j:Nat}{s a b c:Bool}(h:QKa w p L j s a b c)(u:Int)(h0:0≤u)(h1:u≤4294967295) :
 Calls Tryz.prog 152 #[.pointer (some ⟨p,0,none⟩),.int .u32 u] w fun e w'=>e = .returned (.tuple #[.int .i64 (QXe s a b c u j).1,.int .i64 (QXe s a b c u j).2.1,.int .i64 (QXe s a b c u j).2.2])∧Qaa (fun _=>False) w w':=by
 obtain⟨c1,c2,c3,c4,c5,_,_,_,_,_,cl,bI,JS⟩:=h.cells
 clear h
 have HL:=hid (And.intro bI JS)
 clear bI JS
 cases s with
 | true=>
  go_enter Tryz.func152,Tryz.ntmps152
  go_wp2_with fail
  go_ret3
  exact⟨rfl,Qaa.refl _ _⟩
 | false=>
  cases a with
  | true=>
   go_enter Tryz.func152,Tryz.ntmps152
   go_wp2_with fail
   go_ret3
   exact⟨rfl,Qaa.refl _ _⟩
  | false=>
   cases b with
   | true=>
    go_enter Tryz.func152,Tryz.ntmps152
    go_wp2_with fail
    go_ret3
    exact⟨rfl,Qaa.refl _ _⟩
   | false=>
    cases c with
    | true=>
     go_enter Tryz.func152,Tryz.ntmps152
     go_wp2_with fail
     go_ret3
     exact⟨rfl,Qaa.refl _ _⟩
    | false=>
     go_enter Tryz.func152,Tryz.ntmps152
     go_wp2_with fail
     go_quiet (fail)
     go_wp2_with fail
     go_ret3
     exact⟨rfl,Qda _ _⟩
theorem Qkc.marks{p:Nat}{L:List (Int × ByteArray × Int)}{W:Wh}{i d:Nat}{w w':World}{e:Ending}(h:Qkc p L W d i false false false w e w') :
 ∃u j s a b c,e = .returned (.int .u32 u)∧0≤u∧u≤4294967295∧QKa w' p L j s a b c∧Qaa (fun x=>x=p) w w'∧∃res,Rd L W d i res∧Qlf res=QXe s a b c u j:=by
 obtain⟨r,u,hr,rfl,h0,h1,k,hm⟩:=h
 cases r with
 | none=>
  obtain⟨j,a,b,c,ha⟩:=hm
  exact⟨u,j,true,a,b,c,rfl,h0,h1,ha,k,none,hr,rfl⟩
 | some q=>
  obtain⟨hv,ha⟩:=hm
  obtain⟨v,j,a,b,c⟩:=q
  refine⟨u,j,false,a,b,c,rfl,h0,h1,by simpa using ha,k,_,hr,?_⟩
  cases a with
  | true=>rfl
  | false=>
   cases b with
   | true=>rfl
   | false=>
    cases c with
    | true=>rfl
    | false=>
     have:=hv rfl
     rw[this];rfl
theorem QJo{w:World}{L:List (Int × ByteArray × Int)}{v:Value}{i:Nat}(hv:QEf (fun x=>x<w.heap.size) w v L)(hL:L.length≤1000000000)(hi:i≤L.length) :
 QKa (w.alloc (.cells #[v,.int .i64 i,.bool false,.bool false,.bool false,.bool false] 179)) w.heap.size L i false false false false:=by
 refine⟨v,Qca.new w _ _,?_,hi,hL⟩
 obtain⟨a,c,e1,e2,e3⟩:=hv.keeps ((Qaa.refl (fun _=>False) w).alloc (.cells #[v,.int .i64 i,.bool false,.bool false,.bool false,.bool false] 179)) (fun _ _ e=>e)
 refine⟨a,c,e1,e2,fun h0=>?_⟩
 obtain⟨g',o',f1,f2,f3⟩:=e3 h0
 exact⟨g',o',f1,(by show g'≠w.heap.size;omega),f3⟩
theorem QYe{w w2 w3:World}{o:Obj}(k:Qaa (fun x=>x=w.heap.size) (w.alloc o) w2)(k3:Qaa (fun _=>False) w2 w3):Below w.heap.size w w3:=
 ((((Qaa.refl (fun x=>x=w.heap.size) w).alloc o).trans k (fun _ _ e=>e)).trans (k3.mono (S:=fun x=>x=w.heap.size) (fun _ _ e=>e.elim)) (fun _ _ e=>e)).below (Nat.le_refl _) (fun i hi e=>by omega)
theorem QLl{L:List (Int × ByteArray × Int)}{d i:Nat}{r:Option RvT}(hu:unB (Qwa L i)=false)(h:Rd L .opnd d i r):Rd L .prim d i r:=by
 have hp:=Qcl L .prim d i trivial
 have e:=Rd.det h (Qyh hu hp)
 rw[e];exact hp
set_option maxRecDepth 100000 in
theorem Qtk(L:List (Int × ByteArray × Int))(v:Value)(i:Nat)(w:World)(hv:QEf (fun x=>x<w.heap.size) w v L)(hL:L.length≤1000000000)(hi:i<L.length) :
 Calls Tryz.prog 149 #[v,.int .i64 i] w fun e w'=>∃res,Rd L .prim 0 i res∧e = .returned (.tuple #[.int .i64 (Qlf res).1,.int .i64 (Qlf res).2.1,.int .i64 (Qlf res).2.2])∧Below w.heap.size w w':=by
 have nG:(i:Int)<(L.length:Int):=by omega
 have kU:¬((L.length:Int)≤(i:Int)):=by omega
 have K1:=QJo hv hL (Nat.le_of_lt hi)
 have HV:=hid hv
 have GY:=hid (show L[i]? = some L[i]from List.getElem?_eq_getElem hi)
 obtain⟨a,cap,rfl,Ge,ms⟩:=hv
 obtain⟨gt,ot,rfl,pS,hc⟩:=ms (by omega)
 have Hf:=Qie w.heap.size L i false false false false _ K1
 have Hg:=fun wx hx=>(QPp w.heap.size L (L.length-i) i (Nat.le_refl _)).1 wx 0 false false false (Nat.zero_le _) hx
 unfold Qhc at Hf
 rw[show(((0:Nat):Int))=0 from rfl]at Hg
 have bU:L[i].1≠4→Qwa L i=⟨#[]⟩:=fun h=>by unfold Qwa;rw[GY.out];exact if_neg h
 obtain⟨d0,_⟩:=hc i hi
 have KT:=hid ((Qaa.refl (fun _=>False) w).alloc (.cells #[.slice (some ⟨gt,ot,none⟩) L.length cap,.int .i64 i,.bool false,.bool false,.bool false,.bool false] 179))
 have d0':=(KT.out.cell (p:=⟨gt,ot+i*6,none⟩) pS (fun e=>e)).trans d0
 clear hc ms Ge d0
 by_cases hk:L[i].1=2
 ·rw[hk]at d0'
  have HU:=hid (show unB (Qwa L i)=false by rw[bU (by omega)];decide)
  have Jx:=hid (Hg _ K1)
  clear Hg K1 Hf bU hk GY
  go_enter Tryz.func149,Tryz.ntmps149
  go_wp2_with fail
  refine(by exact Jx.out:Calls _ _ _ _ _).mono ?_
  rintro e w2 ho
  obtain⟨u,j,s,x,y,z,rfl,u0,u1,ha,Ho,Gu⟩:=ho.marks
  have Gs:=hid Ho
  have Mo:=hid Gu
  have oi:=hid (QNl ha u u0 u1)
  clear ho ha Ho Gu
  go_wp2_with fail
  refine(by exact oi.out:Calls _ _ _ _ _).mono ?_
  rintro e w3 ⟨rfl,Hc⟩
  have Hy:=hid Hc
  clear Hc
  generalize QXe s x y z u j=M at *
  obtain⟨m1,m2,m3⟩:=M
  go_wp2_with fail
  go_ret3
  obtain⟨res,hr,e⟩:=Mo.out
  exact⟨res,QLl HU.out hr,by rw[e];rfl,QYe Gs.out Hy.out⟩
 ·have kA:(L[i].1 != 2)=true:=by simpa using hk
  have hkb2:(L[i].1 == 2)=false:=by simpa using hk
  by_cases hs:Qwa L i=⟨#[40]⟩
  ·have HU:=hid (show unB (Qwa L i)=false by rw[hs];decide)
   rw[hs]at Hf
   have G7:=hid Hf
   have Jx:=hid Hg
   clear Hg K1 Hf bU hk GY hs
   generalize L[i].1=kd at *
   go_enter Tryz.func149,Tryz.ntmps149
   go_wp2_with fail
   refine(by exact G7.out:Calls _ _ _ _ _).mono ?_
   rintro e w1 ⟨rfl,Hz,Ht⟩
   have Gq:=hid Hz
   have Gg:=hid Ht
   clear Hz Ht
   go_wp2_with fail
   refine(by exact Jx.out _ Gq.out:Calls _ _ _ _ _).mono ?_
   rintro e w2 ho
   obtain⟨u,j,s,x,y,z,rfl,u0,u1,ha,Ho,Gu⟩:=ho.marks
   have Gs:=hid ((Gg.out.mono (S:=fun b=>b=w.heap.size) (fun _ _ e=>e.elim)).trans Ho (fun _ _ e=>e))
   have Mo:=hid Gu
   have oi:=hid (QNl ha u u0 u1)
   clear ho ha Ho Gu
   go_wp2_with fail
   refine(by exact oi.out:Calls _ _ _ _ _).mono ?_
   rintro e w3 ⟨rfl,Hc⟩
   have Hy:=hid Hc
   clear Hc
   generalize QXe s x y z u j=M at *
   obtain⟨m1,m2,m3⟩:=M
   go_wp2_with fail
   go_ret3
   obtain⟨res,hr,e⟩:=Mo.out
   exact⟨res,QLl HU.out hr,by rw[e];rfl,QYe Gs.out Hy.out⟩
  ·have n40:((Qwa L i).toList == [40])=false:=by rw[beq_eq_false_iff_ne];intro e;exact hs (Q3b e)
   have HN:=hid (Qxf (d:=0) hs (fun t e=>by rw[GY.out]at e;cases e;exact hk))
   obtain⟨t,ht⟩:∃t,t=Qwa L i:=⟨_,rfl⟩
   rw[←ht]at Hf n40
   have G7:=hid Hf
   clear Hg K1 Hf bU hk GY hs ht
   generalize L[i].1=kd at *
   go_enter Tryz.func149,Tryz.ntmps149
   go_wp2_with fail
   refine(by exact G7.out:Calls _ _ _ _ _).mono ?_
   rintro e w1 ⟨rfl,Hz,Ht⟩
   have Gg:=hid Ht
   clear Hz Ht
   go_wp2_with fail
   go_ret3
   exact⟨none,HN.out,rfl,QYe (Gg.out.mono (S:=fun b=>b=w.heap.size) (fun _ _ e=>e.elim)) (Qaa.refl _ _)⟩
end Go.Proofs.YtofhcgbihonckaaGreat
