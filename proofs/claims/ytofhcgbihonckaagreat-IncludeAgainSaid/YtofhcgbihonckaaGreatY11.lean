/- Plain laws: how far a reader of expressions goes; how long tokens are. | Plain laws: how much fuel a reader of expressions needs. | Expressions put together of pieces, in plain Lean: what is read of them. -/
import Derived.Test.YtofhcgbihonckaaGreatY10
import Derived.Test.YtofhcgbihonckaaGreatY6
set_option linter.all false
namespace Go.Proofs.YtofhcgbihonckaaGreat
open Go.RowKit
theorem QAn{L:List (Int × ByteArray × Int)}{i:Nat}(h:Qwa L i≠⟨#[]⟩):∃t,L[i]? = some t∧t.1=4:=by
 unfold Qwa at h
 cases e:L[i]? with
 | none=>rw[e]at h;exact absurd rfl h
 | some t=>
  rw[e]at h
  refine⟨t,rfl,?_⟩
  by_cases ht:t.1=4
  ·exact ht
  ·exact absurd (by show(if t.1=4 then _ else _)=_;rw[if_neg ht]) h
def Run(L:List (Int × ByteArray × Int))(i j:Nat):Prop:=i≤j∧∀m,i≤m→m<j→∃t,L[m]? = some t∧(t.1=4∨t.1=2)
theorem Run.refl(L:List (Int × ByteArray × Int))(i:Nat):Run L i i:=⟨Nat.le_refl _,fun m h1 h2=>by omega⟩
theorem Run.one{L:List (Int × ByteArray × Int)}{i:Nat}{t:Int × ByteArray × Int}(h:L[i]? = some t)(k:t.1=4∨t.1=2):Run L i (i+1):=
 ⟨by omega,fun m h1 h2=>by obtain rfl:m=i:=by omega
                           exact⟨t,h,k⟩⟩
theorem Run.trans{L:List (Int × ByteArray × Int)}{i j k:Nat}(h:Run L i j)(h2:Run L j k):Run L i k:=
 ⟨Nat.le_trans h.1 h2.1,fun m h3 h4=>by
  rcases Nat.lt_or_ge m j with c|c
  ·exact h.2 m h3 c
  ·exact h2.2 m c h4⟩
theorem Run.sgn{L:List (Int × ByteArray × Int)}{i:Nat}(h:Qwa L i≠⟨#[]⟩):Run L i (i+1):=by
 obtain⟨t,h1,h2⟩:=QAn h
 exact .one h1 (.inl h2)
theorem QWp{s:ByteArray}(h:unB s=true):s≠⟨#[]⟩:=by rintro rfl;exact absurd h (by decide)
theorem Q0n{k:Nat}{s:ByteArray}{f:Nat}(h:Q7b k s=some f):s≠⟨#[]⟩:=by
 rintro rfl
 rcases Nat.lt_or_ge k 10 with c|c
 ·rw[QIe k c]at h;cases h
 ·unfold Q7b at h
  rw[show Q1b.getD k []=[]from by rw[List.getD_eq_getElem?_getD,List.getElem?_eq_none (by simpa[Q1b]using c)];rfl]at h
  cases h
theorem Qop(L:List (Int × ByteArray × Int)):∀(n:Nat) (W:Wh) (d i:Nat) (q:Int × Nat × Bool × Bool × Bool),evT L n W d i=some (some q)→Run L i q.2.1:=by
 intro n
 induction n with
 | zero=>intro W d i q h;simp[evT]at h
 | succ n ih=>
  intro W d i q h
  cases W with
  | prim=>
   simp only[evT]at h
   by_cases hp:Qwa L i=⟨#[40]⟩
   ·rw[if_pos hp]at h
    obtain⟨r,hr,e⟩:=Option.map_eq_some_iff.1 h
    cases r with
    | none=>simp at e
    | some r=>
     have h1:=ih _ _ _ _ hr
     simp only[Option.bind_some]at e
     by_cases hc:Qwa L r.2.1=⟨#[41]⟩
     ·rw[if_pos hc]at e
      obtain rfl:=Option.some.inj e
      exact((Run.sgn (by rw[hp];decide)).trans h1).trans (Run.sgn (by rw[hc];decide))
     ·rw[if_neg hc]at e;cases e
   ·rw[if_neg hp]at h
    cases e:L[i]? with
    | none=>rw[e]at h;cases h
    | some t=>
     rw[e]at h
     have h':(if t.1=2 then some (t.2.2 % 4294967296,i+1,decide (8<d),decide (t.2.2<0) || decide (4294967295<t.2.2),false)else none)=some q:=Option.some.inj h
     by_cases ht:t.1=2
     ·rw[if_pos ht]at h'
      obtain rfl:=Option.some.inj h'
      exact .one e (.inr ht)
     ·rw[if_neg ht]at h';cases h'
  | opnd=>
   simp only[evT]at h
   by_cases hp:unB (Qwa L i)=true
   ·rw[if_pos hp]at h
    obtain⟨r,hr,e⟩:=Option.map_eq_some_iff.1 h
    cases r with
    | none=>simp at e
    | some r=>
     have h1:=ih _ _ _ _ hr
     obtain rfl:=Option.some.inj e
     exact(Run.sgn (QWp hp)).trans h1
   ·rw[if_neg hp]at h
    exact ih _ _ _ _ h
  | lvl k=>
   cases k with
   | zero=>simp only[evT]at h;exact ih _ _ _ _ h
   | succ k=>
    rw[evT]at h
    obtain⟨r,hr,e⟩:=Option.bind_eq_some_iff.1 h
    cases r with
    | none=>simp at e
    | some r=>
     obtain⟨r2,gG,e2⟩:=Option.map_eq_some_iff.1 e
     cases r2 with
     | none=>simp at e2
     | some r2=>
      have h1:=ih _ _ _ _ gG
      obtain rfl:=Option.some.inj e2
      exact(ih _ _ _ _ hr).trans h1
  | loop k v=>
   rw[evT]at h
   cases hr:Q7b k (Qwa L i)with
   | none=>
    rw[hr]at h
    obtain rfl:=Option.some.inj (Option.some.inj h)
    exact .refl _ _
   | some f=>
    rw[hr]at h
    obtain⟨r,h1,e⟩:=Option.bind_eq_some_iff.1 h
    cases r with
    | none=>simp at e
    | some r=>
     obtain⟨r2,gG,e2⟩:=Option.map_eq_some_iff.1 e
     cases r2 with
     | none=>simp at e2
     | some r2=>
      have h3:=ih _ _ _ _ gG
      obtain rfl:=Option.some.inj e2
      exact((Run.sgn (Q0n hr)).trans (ih _ _ _ _ h1)).trans h3
  | whole=>
   rw[evT]at h
   obtain⟨r,hr,e⟩:=Option.bind_eq_some_iff.1 h
   cases r with
   | none=>simp at e
   | some r=>
    have e':(if Qwa L r.2.1=⟨#[63]⟩then _ else _)=_:=e
    by_cases hs:Qwa L r.2.1=⟨#[63]⟩
    ·rw[if_pos hs]at e'
     obtain⟨y,hy,ey⟩:=Option.bind_eq_some_iff.1 e'
     cases y with
     | none=>simp at ey
     | some y=>
      have ey':(if Qwa L y.2.1=⟨#[58]⟩then _ else _)=_:=ey
      by_cases hc:Qwa L y.2.1=⟨#[58]⟩
      ·rw[if_pos hc]at ey'
       obtain⟨z,hz,ez⟩:=Option.map_eq_some_iff.1 ey'
       cases z with
       | none=>simp at ez
       | some z=>
        have h3:=ih _ _ _ _ hz
        obtain rfl:=Option.some.inj ez
        exact((((ih _ _ _ _ hr).trans (Run.sgn (by rw[hs];decide))).trans (ih _ _ _ _ hy)).trans (Run.sgn (by rw[hc];decide))).trans h3
      ·rw[if_neg hc]at ey';cases ey'
    ·rw[if_neg hs]at e'
     obtain rfl:=Option.some.inj (Option.some.inj e')
     exact ih _ _ _ _ hr
theorem QUp{L:List (Int × ByteArray × Int)}{W:Wh}{d i:Nat}{q:Int × Nat × Bool × Bool × Bool}(h:Rd L W d i (some q)):Run L i q.2.1:=by
 obtain⟨n,h⟩:=h;exact Qop L n W d i q h
theorem QWl{L:List (Int × ByteArray × Int)}{W:Wh}{d i:Nat}{q:Int × Nat × Bool × Bool × Bool}{t:Int × ByteArray × Int}(h:Rd L W d i (some q)){k:Nat}(ht:L[k]? = some t)(h8:t.1=8)(pT:i≤k):q.2.1≤k:=by
 rcases Nat.lt_or_ge k q.2.1 with c|c
 ·obtain⟨u,hu,hk⟩:=(QUp h).2 k pT c
  rw[ht]at hu
  obtain rfl:=Option.some.inj hu
  omega
 ·exact c
def tkX(t:Tok):Int × ByteArray × Int:=(t.kind,⟨t.text.toArray⟩,t.value)
theorem Qen:∀(f:Nat) (l acc:List UInt8) (i:Nat),(qtA f l acc i).1.length≤acc.length+l.length:=by
 intro f
 induction f with
 | zero=>intro l acc i;simp[qtA]
 | succ f ih=>
  intro l acc i
  cases l with
  | nil=>simp[qtA]
  | cons c r=>
   simp only[qtA]
   split
   ·simp
   ·split
    ·simp
    ·split
     ·split
      ·simp
      ·have:=ih (r.drop (esc r).2.1) (acc++[(esc r).1.toNat.toUInt8]) (i+(esc r).2.1+1)
       simp only[List.length_append,List.length_cons,List.length_nil,List.length_drop]at this ⊢
       omega
     ·have:=ih r (acc++[c]) (i+1)
      simp only[List.length_append,List.length_cons,List.length_nil]at this ⊢
      omega
theorem Qqk(l:List UInt8):(Qya l).1.text.length≤l.length:=by
 have hs:(if QHb l > 0 then((⟨4,l.take (QHb l),0,0,0⟩:Tok),QHb l,(0:Int))else(⟨0,[],0,0,0⟩,0,20)).1.text.length≤l.length:=by
  split
  ·simp[List.length_take];omega
  ·simp
 unfold Qya
 simp only[]
 split
 ·split
  ·simp[List.length_take];omega
  ·split
   ·simp[List.length_take];omega
   ·simp
 ·split
  ·simp
  ·split
   ·have:=Qen l.length (l.drop 1) [] 1
    simp only[List.length_nil,List.length_drop]at this
    show(qtA l.length (l.drop 1) [] 1).1.length≤_
    omega
   ·split
    ·simp[List.length_take];omega
    ·split
     ·split
      ·simp[List.length_take];omega
      ·exact hs
     ·exact hs
theorem Qqn(file:Int)(N:Nat):∀(f:Nat) (l:List UInt8) (p:Int × Int) (acc:List Tok),l.length≤N→acc.length≤6000→(∀t∈acc,t.text.length≤N)→
 (∀t∈(rdA file f l p acc).1,t.text.length≤N)∧(rdA file f l p acc).1.length≤6001∧((rdA file f l p acc).2.2=0→∃ts t,(rdA file f l p acc).1=ts++[t]∧t.kind=8):=by
 intro f
 induction f with
 | zero=>intro l p acc _ _ _;simp[rdA]
 | succ f ih=>
  intro l p acc hl ha ht
  rw[rdA]
  simp only[]
  split
  ·simp
  ·split
   ·simp
   ·split
    ·refine⟨?_,by simp;omega,fun _=>⟨_,_,rfl,rfl⟩⟩
     intro t h
     rcases List.mem_append.1 h with h|h
     ·exact ht t h
     ·rw[List.mem_singleton.1 h];simp
    ·split
     ·rename_i hn
      exact⟨by simp,by simp,fun e=>absurd e hn⟩
     ·rename_i hn _ _
      refine ih _ _ _ (by simp;omega) (by simp;omega) ?_
      intro t h
      rcases List.mem_append.1 h with h|h
      ·exact ht t h
      ·rw[List.mem_singleton.1 h]
       have:=Qqk (l.drop (blk l.length l).1)
       simp only[List.length_drop]at this
       show(Qya (l.drop (blk l.length l).1)).1.text.length≤N
       omega
theorem QTd(l:List UInt8)(file:Int):(∀t∈(Qub l file).1,t.text.length≤16000)∧(Qub l file).1.length≤6001∧((Qub l file).2.2=0→∃ts t,(Qub l file).1=ts++[t]∧t.kind=8):=by
 unfold Qub
 split
 ·simp
 ·exact Qqn file 16000 _ l (1,1) [] (by omega) (by simp) (by simp)
def Qqc:Wh→Nat
 | .prim=>1
 | .opnd=>2
 | .lvl k=>2*k+3
 | .loop k _=>2*k+4
 | .whole=>30
def okW:Wh→Prop
 | .lvl k=>k≤10
 | .loop k _=>k<10
 | _=>True
def QQn:Wh→Bool
 | .loop _ _=>true
 | _=>false
theorem Q6j{L:List (Int × ByteArray × Int)}{i:Nat}(h:Qwa L i≠⟨#[]⟩):i<L.length:=QQc h
theorem Qsf(L:List (Int × ByteArray × Int)):∀(n:Nat) (W:Wh) (d i:Nat),okW W→40*(L.length-i)+Qqc W≤n→
 ∃r,evT L n W d i=some r∧∀q,r=some q→i≤q.2.1∧(QQn W=false→i<q.2.1):=by
 intro n
 induction n with
 | zero=>intro W d i _ h;cases W <;> simp[Qqc]at h
 | succ n ih=>
  intro W d i hk h
  cases W with
  | prim=>
   rw[evT]
   simp only[Qqc]at h
   by_cases hp:Qwa L i=⟨#[40]⟩
   ·have Hj:=Q6j (i:=i) (by rw[hp];decide)
    obtain⟨r,hr,hq⟩:=ih .whole (d+1) (i+1) trivial (by simp only[Qqc];omega)
    rw[if_pos hp,hr]
    refine⟨_,rfl,fun q e=>?_⟩
    cases r with
    | none=>cases e
    | some r=>
     have e':(if Qwa L r.2.1=⟨#[41]⟩then some (r.1,r.2.1+1,r.2.2)else none)=some q:=e
     have:=(hq r rfl).2 rfl
     split at e'
     ·obtain rfl:=Option.some.inj e'
      exact⟨by show i≤r.2.1+1;omega,fun _=>by show i<r.2.1+1;omega⟩
     ·cases e'
   ·rw[if_neg hp]
    refine⟨_,rfl,fun q e=>?_⟩
    cases ht:L[i]? with
    | none=>rw[ht]at e;cases e
    | some t=>
     rw[ht]at e
     have e':(if t.1=2 then some (t.2.2 % 4294967296,i+1,decide (8<d),decide (t.2.2<0) || decide (4294967295<t.2.2),false)else none)=some q:=e
     split at e'
     ·obtain rfl:=Option.some.inj e'
      exact⟨by show i≤i+1;omega,fun _=>by show i<i+1;omega⟩
     ·cases e'
  | opnd=>
   rw[evT]
   simp only[Qqc]at h
   by_cases hp:unB (Qwa L i)=true
   ·have Hj:=Q6j (i:=i) (QWp hp)
    obtain⟨r,hr,hq⟩:=ih .opnd d (i+1) trivial (by simp only[Qqc];omega)
    rw[if_pos hp,hr]
    refine⟨_,rfl,fun q e=>?_⟩
    cases r with
    | none=>cases e
    | some r=>
     obtain rfl:=Option.some.inj e
     have:=(hq r rfl).2 rfl
     exact⟨by show i≤r.2.1;omega,fun _=>by show i<r.2.1;omega⟩
   ·rw[if_neg hp]
    obtain⟨r,hr,hq⟩:=ih .prim d i trivial (by simp only[Qqc];omega)
    exact⟨r,hr,fun q e=>⟨(hq q e).1,fun _=>(hq q e).2 rfl⟩⟩
  | lvl k=>
   simp only[Qqc]at h
   cases k with
   | zero=>
    rw[evT]
    obtain⟨r,hr,hq⟩:=ih .opnd d i trivial (by simp only[Qqc];omega)
    exact⟨r,hr,fun q e=>⟨(hq q e).1,fun _=>(hq q e).2 rfl⟩⟩
   | succ k=>
    have Ho:k+1≤10:=hk
    rw[evT]
    obtain⟨r,hr,hq⟩:=ih (.lvl k) d i (show k≤10 by omega) (by simp only[Qqc];omega)
    rw[hr]
    cases r with
    | none=>exact⟨none,rfl,fun q e=>by cases e⟩
    | some q=>
     have Hj:=(hq q rfl).2 rfl
     obtain⟨r2,gG,aD⟩:=ih (.loop k q.1) d q.2.1 (show k<10 by omega) (by simp only[Qqc];omega)
     refine⟨_,by show Option.map _ _=_;rw[gG];rfl,fun q2 e=>?_⟩
     cases r2 with
     | none=>cases e
     | some r2=>
      obtain rfl:=Option.some.inj e
      have:=(aD r2 rfl).1
      exact⟨by show i≤r2.2.1;omega,fun _=>by show i<r2.2.1;omega⟩
  | loop k v=>
   simp only[Qqc]at h
   have Ho:k<10:=hk
   rw[evT]
   cases hr:Q7b k (Qwa L i)with
   | none=>exact⟨_,rfl,fun q e=>by obtain rfl:=Option.some.inj e;exact⟨Nat.le_refl _,fun e=>by cases e⟩⟩
   | some f=>
    have Hj:=Q6j (i:=i) (Q0n hr)
    obtain⟨r,Hz,hq⟩:=ih (.lvl k) d (i+1) (show k≤10 by omega) (by simp only[Qqc];omega)
    show ∃r,Option.bind _ _=some r∧_
    rw[Hz]
    cases r with
    | none=>exact⟨none,rfl,fun q e=>by cases e⟩
    | some q=>
     have ki:=(hq q rfl).2 rfl
     obtain⟨r2,gG,aD⟩:=ih (.loop k (QPb f v (if Qdb f q.1=true then 1 else q.1))) d q.2.1 Ho (by simp only[Qqc];omega)
     refine⟨_,by show Option.map _ _=_;rw[gG];rfl,fun q2 e=>?_⟩
     cases r2 with
     | none=>cases e
     | some r2=>
      obtain rfl:=Option.some.inj e
      have:=(aD r2 rfl).1
      exact⟨by show i≤r2.2.1;omega,fun e=>by cases e⟩
  | whole=>
   simp only[Qqc]at h
   rw[evT]
   obtain⟨r,hr,hq⟩:=ih (.lvl 10) d i (show 10≤10 by omega) (by simp only[Qqc];omega)
   rw[hr]
   cases r with
   | none=>exact⟨none,rfl,fun q e=>by cases e⟩
   | some q=>
    have Hj:=(hq q rfl).2 rfl
    show ∃r,(if Qwa L q.2.1=⟨#[63]⟩then _ else _)=some r∧_
    by_cases hs:Qwa L q.2.1=⟨#[63]⟩
    ·have gE:=Q6j (i:=q.2.1) (by rw[hs];decide)
     rw[if_pos hs]
     obtain⟨y,hy,Jm⟩:=ih .whole d (q.2.1+1) trivial (by simp only[Qqc];omega)
     rw[hy]
     cases y with
     | none=>exact⟨none,rfl,fun q e=>by cases e⟩
     | some y=>
      have hly:=(Jm y rfl).2 rfl
      show ∃r,(if Qwa L y.2.1=⟨#[58]⟩then _ else _)=some r∧_
      by_cases hc:Qwa L y.2.1=⟨#[58]⟩
      ·rw[if_pos hc]
       obtain⟨z,hz,uF⟩:=ih .whole d (y.2.1+1) trivial (by simp only[Qqc];omega)
       rw[hz]
       refine⟨_,rfl,fun q2 e=>?_⟩
       cases z with
       | none=>cases e
       | some z=>
        obtain rfl:=Option.some.inj e
        have:=(uF z rfl).1
        exact⟨by show i≤z.2.1;omega,fun _=>by show i<z.2.1;omega⟩
      ·rw[if_neg hc];exact⟨none,rfl,fun q e=>by cases e⟩
    ·rw[if_neg hs]
     exact⟨_,rfl,fun q2 e=>by obtain rfl:=Option.some.inj (Option.some.inj e |> fun h=>by exact congrArg some h);exact⟨by omega,fun _=>Hj⟩⟩
def evF(L:List (Int × ByteArray × Int))(W:Wh)(d i:Nat):Option (Int × Nat × Bool × Bool × Bool):=(evT L (40*L.length+40) W d i).getD none
theorem Qcl(L:List (Int × ByteArray × Int))(W:Wh)(d i:Nat)(h:okW W):Rd L W d i (evF L W d i):=by
 have hf:Qqc W≤40:=by
  cases W with
  | lvl k=>have:k≤10:=h;simp only[Qqc];omega
  | loop k v=>have:k<10:=h;simp only[Qqc];omega
  | _=>simp[Qqc]
 obtain⟨r,hr,_⟩:=Qsf L (40*L.length+40) W d i h (by omega)
 exact⟨_,by unfold evF;rw[hr];rfl⟩
theorem Rd.evF{L:List (Int × ByteArray × Int)}{W:Wh}{d i:Nat}{res:Option (Int × Nat × Bool × Bool × Bool)}(h:Rd L W d i res)(hk:okW W):evF L W d i=res:=(Qcl L W d i hk).det h
def cvT(t:Int × List UInt8 × Int):Int × ByteArray × Int:=(t.1,⟨t.2.1.toArray⟩,t.2.2)
def AtT(L:List (Int × ByteArray × Int))(i:Nat)(T:List (Int × ByteArray × Int)):Prop:=∃R,L.drop i=T++R
section
variable{L T U:List (Int × ByteArray × Int)}{i d j j2 k f:Nat}{t:Int × ByteArray × Int}{v x y:Int}{s b:ByteArray}
theorem AtT.left(h:AtT L i (T++U)):AtT L i T:=by
 obtain⟨R,h⟩:=h;exact⟨U++R,by rw[h,List.append_assoc]⟩
theorem AtT.right(h:AtT L i (T++U)):AtT L (i+T.length) U:=by
 obtain⟨R,h⟩:=h;exact⟨R,by rw[←List.drop_drop,h,List.append_assoc,List.drop_left]⟩
theorem AtT.get(h:AtT L i (t::U)):L[i]? = some t:=by
 obtain⟨R,h⟩:=h
 have e:(L.drop i)[0]? = some t:=by rw[h];rfl
 simpa using e
theorem AtT.sgn(h:AtT L i ((4,s,v)::U)):Qwa L i=s:=by unfold Qwa;rw[h.get];rfl
def Qmp(s:ByteArray):Prop:=s=⟨#[]⟩∨s=⟨#[41]⟩∨s=⟨#[58]⟩
theorem Qal(h:Qmp s):∀q,q<10→Q7b q s=none:=by
 rcases h with rfl|rfl|rfl <;> decide
theorem Qnp(h:Qmp s):s≠⟨#[63]⟩:=by
 rcases h with rfl|rfl|rfl <;> decide
theorem Qfh(K:Nat)(h:Rd L .opnd d i (some (v,j,noF)))(hn:∀q,q<K→Q7b q (Qwa L j)=none):Rd L (.lvl K) d i (some (v,j,noF)):=by
 have:=QYl h K _ (Q0j K hn)
 simpa[QLi,orF,noF]using this
theorem QXd(h:Rd L .opnd d i (some (v,j,noF)))(he:Qmp (Qwa L j)):Rd L .whole d i (some (v,j,noF)):=
 Qyf (Qfh 10 h (Qal he)) (Qnp he)
theorem Q4m(h:Qwa L i=⟨#[40]⟩)(hw:Rd L .whole (d+1) (i+1) (some (v,j,noF)))(hr:Qwa L j=⟨#[41]⟩):Rd L .opnd d i (some (v,j+1,noF)):=
 Qyh (by rw[h];decide) (QZl h hw hr)
theorem Qoh(h:L[i]? = some (2,b,v))(h0:0≤v)(h1:v≤4294967295)(hd:d≤8):Rd L .opnd d i (some (v,i+1,noF)):=by
 have hs:Qwa L i=⟨#[]⟩:=by unfold Qwa;rw[h];rfl
 have:=Qsi (d:=d) (by rw[hs];decide) h rfl
 have e1:v % 4294967296=v:=Int.emod_eq_of_lt h0 (by omega)
 have e2:decide (8<d)=false:=by simp;omega
 have e3:decide (v<0)=false:=by simp;omega
 have e4:decide (4294967295<v)=false:=by simp;omega
 simp only[e1,e2,e3,e4,Bool.or_false]at this
 exact Qyh (by rw[hs];decide) this
theorem QBo(hs:unB (Qwa L i)=true)(h:Rd L .opnd d (i+1) (some (v,j,noF))):Rd L .opnd d i (some (unT (Qwa L i) v,j,noF)):=Q0o hs h
theorem Quo(h:Rd L .opnd d i (some (x,j,noF)))(hr:Q7b k (Qwa L j)=some f)(hk:k<10)(hm:∀m,m<k→Q7b m (Qwa L j)=none)(h2:Rd L .opnd d (j+1) (some (y,j2,noF)))
 (he:∀q,q<10→Q7b q (Qwa L j2)=none) (hd:Qdb f y=false):Rd L (.lvl 10) d i (some (QPb f x y,j2,noF)):=by
 have e:=Q2o (x:=x) hr hm (Qfh k h2 (fun q hq=>he q (by omega))) 10 hk (some (QPb f x y,j2,noF)) (by
  show RL L 10 (QPb f x (if Qdb f y=true then 1 else y)) d j2 _
  rw[hd]
  exact Q0j 10 he)
 have:=QYl h 10 _ e
 simpa[QLi,orF,noF,hd]using this
theorem QGi(h:Rd L .opnd d i (some (x,j,noF)))(hr:Q7b k (Qwa L j)=some f)(hk:k<10)(hm:∀m,m<k→Q7b m (Qwa L j)=none)(h2:Rd L .opnd d (j+1) (some (y,j2,noF)))
 (he:Qmp (Qwa L j2)) (hd:Qdb f y=false):Rd L .whole d i (some (QPb f x y,j2,noF)):=
 Qyf (Quo h hr hk hm h2 (Qal he) hd) (Qnp he)
theorem QGn{z:Int}{j3:Nat}(h:Rd L (.lvl 10) d i (some (x,j,noF)))(hq:Qwa L j=⟨#[63]⟩)(h2:Rd L .whole d (j+1) (some (y,j2,noF)))(hc:Qwa L j2=⟨#[58]⟩)
 (h3:Rd L .whole d (j2+1) (some (z,j3,noF))):Rd L .whole d i (some (if x=0 then z else y,j3,noF)):=by
 have:=QXl h hq h2 hc h3
 simpa[orF,noF]using this
end
def Q1c:List (ByteArray × Nat × Nat):=[(⟨#[42]⟩,0,1),(⟨#[47]⟩,0,2),(⟨#[37]⟩,0,3),(⟨#[43]⟩,1,4),(⟨#[45]⟩,1,5),(⟨#[60,60]⟩,2,6),(⟨#[62,62]⟩,2,7),(⟨#[60]⟩,3,8),(⟨#[62]⟩,3,9),(⟨#[60,61]⟩,3,10),(⟨#[62,61]⟩,3,11),(⟨#[61,61]⟩,4,12),(⟨#[33,61]⟩,4,13),(⟨#[38]⟩,5,14),(⟨#[94]⟩,6,15),(⟨#[124]⟩,7,16),(⟨#[38,38]⟩,8,17),(⟨#[124,124]⟩,9,18)]
theorem Q3j:∀e∈Q1c,Q7b e.2.1 e.1=some e.2.2∧e.2.1<10∧(∀m,m<10→m≠e.2.1→Q7b m e.1=none)∧e.1≠⟨#[63]⟩:=by decide
def Qum:Nat→Nat
 | 0=>10
 | k+1=>2*Qum k+20
def QIn:Nat→Nat
 | 0=>1
 | k+1=>2*QIn k+7
theorem QKn:∀k,10≤Qum k:=by
 intro k;cases k <;> simp[Qum]
theorem QJn:∀k,1≤QIn k:=by
 intro k;cases k <;> simp[QIn]
def QUk(c:UInt8):Bool:=decide (c≠34) && decide (c≠59) && decide (c≠123) && decide (c≠125) && decide (c≠92) && decide (c≠105)
theorem QOh(n:Nat):(Qab 10 false n).all QUk=true:=by
 rw[List.all_eq_true]
 exact QLd 10 false (by omega) (by omega) (fun c=>QUk c=true) (by decide) n n (Nat.le_refl _)
structure XG(k:Nat)(a:List UInt8)(x:Int):Prop where
 lo:0≤x
 hi:x≤4294967295
 len:a.length≤Qum k
 chr:a.all QUk=true
 ex:∃T:List (Int × List UInt8 × Int),T.length≤QIn k∧(∀r,(r=[]∨∃r',r=41::r')→Lx a T r)∧
  ∀(L:List (Int × ByteArray × Int)) (i d:Nat),d+k≤8→AtT L i (T.map cvT)→Qmp (Qwa L (i+T.length))→Rd L .whole d i (some (x,i+T.length,noF))
structure XO(k:Nat)(a:List UInt8)(x:Int):Prop where
 lo:0≤x
 hi:x≤4294967295
 len:a.length≤Qum k+2
 chr:a.all QUk=true
 ex:∃T:List (Int × List UInt8 × Int),T.length≤QIn k+2∧(∀r,Lx a T r)∧
  ∀(L:List (Int × ByteArray × Int)) (i d:Nat),d+k+1≤8→AtT L i (T.map cvT)→Rd L .opnd d i (some (x,i+T.length,noF))
theorem XG.par{k:Nat}{a:List UInt8}{x:Int}(h:XG k a x):XO k (40::(a++[41])) x:=by
 obtain⟨h1,h2,h3,hq,T,hc,hT,hR⟩:=h
 refine⟨h1,h2,by simp;omega,by simp only[List.all_cons,List.all_append,hq];decide,[(4,[40],0)]++(T++[(4,[41],0)]),by simp;omega,fun r=>?_,fun L i d hd hA=>?_⟩
 ·exact Lx.append (x:=[40]) (Lx.lpar _) (Lx.append (hT _ (.inr ⟨_,rfl⟩)) (Lx.rpar r))
 ·simp only[List.map_append]at hA
  have e0:=hA.left.sgn (s:=⟨#[40]⟩)
  have hB:=hA.right
  have hC:=hB.right.sgn (s:=⟨#[41]⟩)
  simp only[List.length_map,List.length_cons,List.length_nil,Nat.zero_add]at hB hC
  have:=Q4m e0 (hR L (i+1) (d+1) (by omega) hB.left (by rw[hC];exact .inr (.inl rfl))) hC
  simpa[Nat.add_assoc,Nat.add_comm,Nat.add_left_comm]using this
theorem XG.num(k n:Nat)(h:n≤4294967295):XG k (Qab 10 false n) n:=by
 refine⟨by omega,by omega,?_,QOh n,[(2,[],(n:Int))],by simpa using QJn k,fun r hr=>?_,fun L i d hd hA he=>?_⟩
 ·have:=Qbf n h
  have:=QKn k
  omega
 ·refine Lx.dec h ?_
  rcases hr with rfl|⟨r',rfl⟩
  ·exact .inl rfl
  ·exact .inr (by rfl)
 ·exact QXd (Qoh hA.get (by omega) (by omega) (by omega)) he
theorem XO.un{k:Nat}{a:List UInt8}{x:Int}{c:UInt8}(hc:c=45∨c=126∨c=33)(h:XG k a x):XG (k+1) (c::(40::(a++[41]))) (unT ⟨#[c]⟩ x):=by
 obtain⟨h1,h2,h3,hq,T,ud,hT,hR⟩:=h.par
 have hu:unB ⟨#[c]⟩=true:=by rcases hc with rfl|rfl|rfl <;> decide
 have hb:0≤unT ⟨#[c]⟩ x∧unT ⟨#[c]⟩ x≤4294967295:=by
  unfold unT Qvc
  split
  ·omega
  ·split
   ·omega
   ·split <;> omega
 refine⟨hb.1,hb.2,by simp only[Qum,List.length_cons]at h3 ⊢;omega,by rw[List.all_cons,hq];rcases hc with rfl|rfl|rfl <;> decide,[(4,[c],0)]++T,by simp only[QIn,List.length_append,List.length_cons,List.length_nil];omega,fun r _=>?_,fun L i d hd hA he=>?_⟩
 ·refine Lx.append (x:=[c]) ?_ (hT r)
  rcases hc with rfl|rfl|rfl
  ·exact Lx.minus _
  ·exact Lx.compl _
  ·exact Lx.bang _
 ·simp only[List.map_append]at hA
  have e0:=hA.left.sgn (s:=⟨#[c]⟩)
  have hB:=hA.right
  simp only[List.length_map,List.length_cons,List.length_nil,Nat.zero_add]at hB
  have:=QBo (by rw[e0];exact hu) (hR L (i+1) d (by omega) hB)
  rw[e0]at this
  have e1:i+([(4,[c],0)]++T:List (Int × List UInt8 × Int)).length=i+1+T.length:=by simp;omega
  rw[e1]at he ⊢
  exact QXd this he
theorem XG.bin{k row f:Nat}{a b m s:List UInt8}{x y:Int}(ha:XG k a x)(hb:XG k b y)(hs:(⟨s.toArray⟩,row,f)∈Q1c)(hm:∀r,Lx m [(4,s,0)] (40::r))(Jt:m.length≤4∧m.all QUk=true)(hd:Qdb f y=false)
 (h0:0≤QPb f x y) (h1:QPb f x y≤4294967295):XG (k+1) (40::(a++[41])++(m++(40::(b++[41])))) (QPb f x y):=by
 obtain⟨a1,a2,a3,aq,T,ac,aT,aR⟩:=ha.par
 obtain⟨b1,b2,b3,bq,U,bc,bT,bR⟩:=hb.par
 obtain⟨r1,r2,r3,_⟩:=Q3j _ hs
 simp only at r1 r2 r3
 refine⟨h0,h1,by simp only[Qum,List.length_append]at a3 b3 ⊢;have:=Jt.1;omega,by simp only[List.all_append,aq,bq,Jt.2];decide,T++([(4,s,0)]++U),by simp only[QIn,List.length_append,List.length_cons,List.length_nil]at ac bc ⊢;omega,fun r _=>?_,fun L i d hd' hA he=>?_⟩
 ·exact Lx.append (aT _) (Lx.append (hm _) (bT r))
 ·simp only[List.map_append]at hA
  have hB:=hA.right
  have e0:=hB.left.sgn (s:=⟨s.toArray⟩)
  have hC:=hB.right
  simp only[List.length_map,List.length_cons,List.length_nil,Nat.zero_add]at e0 hC
  have hx:=aR L i d (by omega) hA.left
  have hy:=bR L (i+T.length+1) d (by omega) hC
  have e1:i+(T++([(4,s,0)]++U)).length=i+T.length+1+U.length:=by simp;omega
  rw[e1]at he ⊢
  exact QGi hx (by rw[e0];exact r1) r2 (fun q hq=>by rw[e0];exact r3 q (by omega) (by omega)) hy he hd
theorem XG.binN{k row f n:Nat}{a m s:List UInt8}{x:Int}(ha:XG k a x)(hs:(⟨s.toArray⟩,row,f)∈Q1c)(hm:∀r,Lx m [(4,s,0)] (32::r))(Jt:m.length≤4∧m.all QUk=true)(hn:n<10)(hd:Qdb f n=false)
 (h0:0≤QPb f x n) (h1:QPb f x n≤4294967295):XG (k+1) (40::(a++[41])++(m++(32::Qab 10 false n))) (QPb f x n):=by
 obtain⟨a1,a2,a3,aq,T,ac,aT,aR⟩:=ha.par
 obtain⟨r1,r2,r3,_⟩:=Q3j _ hs
 simp only at r1 r2 r3
 have hl:(Qab 10 false n).length=1:=by rw[QWa 10 false n hn];rfl
 refine⟨h0,h1,by simp only[Qum,List.length_append,List.length_cons,hl]at a3 ⊢;have:=Jt.1;omega,by simp only[List.all_append,List.all_cons,aq,Jt.2,QOh];decide,T++([(4,s,0)]++([]++[(2,[],(n:Int))])),by simp only[QIn,List.length_append,List.length_cons,List.length_nil]at ac ⊢;omega,fun r hr=>?_,fun L i d hd' hA he=>?_⟩
 ·refine Lx.append (aT _) (Lx.append (hm _) (Lx.append (x:=[32]) (Lx.sp _) (Lx.dec (by omega) ?_)))
  rcases hr with rfl|⟨r',rfl⟩
  ·exact .inl rfl
  ·exact .inr (by rfl)
 ·simp only[List.map_append,List.nil_append,List.map_nil]at hA he ⊢
  have hB:=hA.right
  have e0:=hB.left.sgn (s:=⟨s.toArray⟩)
  have hC:=hB.right
  simp only[List.length_map,List.length_cons,List.length_nil,Nat.zero_add]at e0 hC
  have hx:=aR L i d (by omega) hA.left
  have hy:=Qoh (d:=d) (b:=⟨([]:List UInt8).toArray⟩) (v:=(n:Int)) hC.get (by omega) (by omega) (by omega)
  have e1:i+(T++([(4,s,0)]++[(2,[],(n:Int))])).length=i+T.length+1+1:=by simp;omega
  rw[e1]at he ⊢
  exact QGi hx (by rw[e0];exact r1) r2 (fun q hq=>by rw[e0];exact r3 q (by omega) (by omega)) hy he hd
theorem XG.cond{k:Nat}{a b:List UInt8}{x y:Int}(ha:XG k a x)(hb:XG k b y):XG (k+1) (40::(a++[41])++([32,63,32]++(40::(b++[41])++([32,58,32]++Qab 10 false 5)))) (if x=0 then 5 else y):=by
 obtain⟨a1,a2,a3,aq,T,ac,aT,aR⟩:=ha.par
 obtain⟨b1,b2,b3,bq,U,bc,bT,bR⟩:=hb.par
 have hl:(Qab 10 false 5).length=1:=by rw[QWa 10 false 5 (by omega)];rfl
 refine⟨by split <;> omega,by split <;> omega,by simp only[Qum,List.length_append,List.length_cons,List.length_nil,hl]at a3 b3 ⊢;omega,by simp only[List.all_append,aq,bq,QOh];decide,
  T++([(4,[63],0)]++(U++([(4,[58],0)]++[(2,[],((5:Nat):Int))]))),by simp only[QIn,List.length_append,List.length_cons,List.length_nil]at ac bc ⊢;omega,fun r hr=>?_,fun L i d hd' hA he=>?_⟩
 ·have sgnLx:∀(c:UInt8) (r:List UInt8),(∀r,Lx [c] [(4,[c],0)] r)→Lx [32,c,32] [(4,[c],0)] r:=by
   intro c r hc
   exact Lx.append (x:=[32]) (T:=[]) (y:=[c,32]) (Lx.sp _) (Lx.append (x:=[c]) (U:=[]) (hc _) (Lx.sp r))
  refine Lx.append (aT _) (Lx.append (sgnLx 63 _ Lx.quest) (Lx.append (bT _) (Lx.append (sgnLx 58 _ Lx.colon) (Lx.dec (by omega) ?_))))
  rcases hr with rfl|⟨r',rfl⟩
  ·exact .inl rfl
  ·exact .inr (by rfl)
 ·simp only[List.map_append]at hA
  have hB:=hA.right
  have e0:=hB.left.sgn (s:=⟨#[63]⟩)
  have hC:=hB.right
  have hD:=hC.right
  have e2:=hD.left.sgn (s:=⟨#[58]⟩)
  have hE:=hD.right
  simp only[List.length_map,List.length_cons,List.length_nil,Nat.zero_add]at e0 hC e2 hE
  have hx:=aR L i d (by omega) hA.left
  have hy:=bR L (i+T.length+1) d (by omega) hC.left
  have hz:=Qoh (d:=d) (b:=⟨([]:List UInt8).toArray⟩) (v:=((5:Nat):Int)) hE.get (by omega) (by omega) (by omega)
  have e1:i+(T++([(4,[63],0)]++(U++([(4,[58],0)]++[(2,[],((5:Nat):Int))])))).length=i+T.length+1+U.length+1+1:=by simp;omega
  rw[e1]at he ⊢
  exact QGn (Qfh 10 hx (by rw[e0];decide)) e0 (QXd hy (by rw[e2];exact .inr (.inr rfl))) e2 (QXd hz he)
end Go.Proofs.YtofhcgbihonckaaGreat
