/- Plain laws: how far a reader of expressions goes; how long tokens are. | Plain laws: how much fuel a reader of expressions needs. | Expressions put together of pieces, in plain Lean: what is read of them. -/
import Derived.Test.YtofhcgbihonckaaGreatZ3
import Derived.Test.YtofhcgbihonckaaGreatZ5
set_option linter.all false
namespace Go.Proofs.YtofhcgbihonckaaGreat
open Go.RowKit
theorem QBo{L:List (Int × ByteArray × Int)}{i:Nat}(h:Qya L i≠⟨#[]⟩):∃t,L[i]? = some t∧t.1=4:=by
 unfold Qya at h
 cases e:L[i]? with
 | none=>rw[e]at h;exact absurd rfl h
 | some t=>
  rw[e]at h
  refine⟨t,rfl,?_⟩
  by_cases ht:t.1=4
  ·exact ht
  ·exact absurd (by show(if t.1=4 then _ else _)=_;rw[if_neg ht]) h
def Run(L:List (Int × ByteArray × Int))(i j:Nat):Prop:=i≤j∧∀m,i≤m→m<j→∃t,L[m]? = some t∧(t.1=4∨t.1=2)
theorem Run.refl(L:List (Int × ByteArray × Int))(i:Nat):Run L i i:=⟨Nat.le_refl _,fun m h1 h2=>by omega⟩
theorem Run.one{L:List (Int × ByteArray × Int)}{i:Nat}{t:Int × ByteArray × Int}(h:L[i]? = some t)(k:t.1=4∨t.1=2):Run L i (i+1):=
 ⟨by omega,fun m h1 h2=>by obtain rfl:m=i:=by omega
                           exact⟨t,h,k⟩⟩
theorem Run.trans{L:List (Int × ByteArray × Int)}{i j k:Nat}(h:Run L i j)(h2:Run L j k):Run L i k:=
 ⟨Nat.le_trans h.1 h2.1,fun m h3 h4=>by
  rcases Nat.lt_or_ge m j with c|c
  ·exact h.2 m h3 c
  ·exact h2.2 m c h4⟩
theorem Run.sgn{L:List (Int × ByteArray × Int)}{i:Nat}(h:Qya L i≠⟨#[]⟩):Run L i (i+1):=by
 obtain⟨t,h1,h2⟩:=QBo h
 exact .one h1 (.inl h2)
theorem Qcr{s:ByteArray}(h:unB s=true):s≠⟨#[]⟩:=by rintro rfl;exact absurd h (by decide)
theorem Q2o{k:Nat}{s:ByteArray}{f:Nat}(h:Qlc k s=some f):s≠⟨#[]⟩:=by
 rintro rfl
 rcases Nat.lt_or_ge k 10 with c|c
 ·rw[Qaf k c]at h;cases h
 ·unfold Qlc at h
  rw[show Qgc.getD k []=[]from by rw[List.getD_eq_getElem?_getD,List.getElem?_eq_none (by simpa[Qgc]using c)];rfl]at h
  cases h
theorem Qxq(L:List (Int × ByteArray × Int)):∀(n:Nat) (W:Wh) (d i:Nat) (q:Int × Nat × Bool × Bool × Bool),evT L n W d i=some (some q)→Run L i q.2.1:=by
 intro n
 induction n with
 | zero=>intro W d i q h;simp[evT]at h
 | succ n ih=>
  intro W d i q h
  cases W with
  | prim=>
   simp only[evT]at h
   by_cases hp:Qya L i=⟨#[40]⟩
   ·rw[if_pos hp]at h
    obtain⟨r,hr,e⟩:=Option.map_eq_some_iff.1 h
    cases r with
    | none=>simp at e
    | some r=>
     have h1:=ih _ _ _ _ hr
     simp only[Option.bind_some]at e
     by_cases hc:Qya L r.2.1=⟨#[41]⟩
     ·rw[if_pos hc]at e
      obtain rfl:=Option.some.inj e
      exact((Run.sgn (by rw[hp];decide)).trans h1).trans (Run.sgn (by rw[hc];decide))
     ·rw[if_neg hc]at e;cases e
   ·rw[if_neg hp]at h
    cases e:L[i]? with
    | none=>rw[e]at h;cases h
    | some t=>
     rw[e]at h
     have h':(if t.1=2 then some (t.2.2 % 4294967296,i+1,decide (8<d),decide (t.2.2<0) || decide (4294967295<t.2.2),false)else none)=some q:=Option.some.inj h
     by_cases ht:t.1=2
     ·rw[if_pos ht]at h'
      obtain rfl:=Option.some.inj h'
      exact .one e (.inr ht)
     ·rw[if_neg ht]at h';cases h'
  | opnd=>
   simp only[evT]at h
   by_cases hp:unB (Qya L i)=true
   ·rw[if_pos hp]at h
    obtain⟨r,hr,e⟩:=Option.map_eq_some_iff.1 h
    cases r with
    | none=>simp at e
    | some r=>
     have h1:=ih _ _ _ _ hr
     obtain rfl:=Option.some.inj e
     exact(Run.sgn (Qcr hp)).trans h1
   ·rw[if_neg hp]at h
    exact ih _ _ _ _ h
  | lvl k=>
   cases k with
   | zero=>simp only[evT]at h;exact ih _ _ _ _ h
   | succ k=>
    rw[evT]at h
    obtain⟨r,hr,e⟩:=Option.bind_eq_some_iff.1 h
    cases r with
    | none=>simp at e
    | some r=>
     obtain⟨r2,gT,e2⟩:=Option.map_eq_some_iff.1 e
     cases r2 with
     | none=>simp at e2
     | some r2=>
      have h1:=ih _ _ _ _ gT
      obtain rfl:=Option.some.inj e2
      exact(ih _ _ _ _ hr).trans h1
  | loop k v=>
   rw[evT]at h
   cases hr:Qlc k (Qya L i)with
   | none=>
    rw[hr]at h
    obtain rfl:=Option.some.inj (Option.some.inj h)
    exact .refl _ _
   | some f=>
    rw[hr]at h
    obtain⟨r,h1,e⟩:=Option.bind_eq_some_iff.1 h
    cases r with
    | none=>simp at e
    | some r=>
     obtain⟨r2,gT,e2⟩:=Option.map_eq_some_iff.1 e
     cases r2 with
     | none=>simp at e2
     | some r2=>
      have h3:=ih _ _ _ _ gT
      obtain rfl:=Option.some.inj e2
      exact((Run.sgn (Q2o hr)).trans (ih _ _ _ _ h1)).trans h3
  | whole=>
   rw[evT]at h
   obtain⟨r,hr,e⟩:=Option.bind_eq_some_iff.1 h
   cases r with
   | none=>simp at e
   | some r=>
    have e':(if Qya L r.2.1=⟨#[63]⟩then _ else _)=_:=e
    by_cases hs:Qya L r.2.1=⟨#[63]⟩
    ·rw[if_pos hs]at e'
     obtain⟨y,hy,ey⟩:=Option.bind_eq_some_iff.1 e'
     cases y with
     | none=>simp at ey
     | some y=>
      have ey':(if Qya L y.2.1=⟨#[58]⟩then _ else _)=_:=ey
      by_cases hc:Qya L y.2.1=⟨#[58]⟩
      ·rw[if_pos hc]at ey'
       obtain⟨z,hz,ez⟩:=Option.map_eq_some_iff.1 ey'
       cases z with
       | none=>simp at ez
       | some z=>
        have h3:=ih _ _ _ _ hz
        obtain rfl:=Option.some.inj ez
        exact((((ih _ _ _ _ hr).trans (Run.sgn (by rw[hs];decide))).trans (ih _ _ _ _ hy)).trans (Run.sgn (by rw[hc];decide))).trans h3
      ·rw[if_neg hc]at ey';cases ey'
    ·rw[if_neg hs]at e'
     obtain rfl:=Option.some.inj (Option.some.inj e')
     exact ih _ _ _ _ hr
theorem Qar{L:List (Int × ByteArray × Int)}{W:Wh}{d i:Nat}{q:Int × Nat × Bool × Bool × Bool}(h:Rd L W d i (some q)):Run L i q.2.1:=by
 obtain⟨n,h⟩:=h;exact Qxq L n W d i q h
theorem QXm{L:List (Int × ByteArray × Int)}{W:Wh}{d i:Nat}{q:Int × Nat × Bool × Bool × Bool}{t:Int × ByteArray × Int}(h:Rd L W d i (some q)){k:Nat}(ht:L[k]? = some t)(h8:t.1=8)(vC:i≤k):q.2.1≤k:=by
 rcases Nat.lt_or_ge k q.2.1 with c|c
 ·obtain⟨u,hu,hk⟩:=(Qar h).2 k vC c
  rw[ht]at hu
  obtain rfl:=Option.some.inj hu
  omega
 ·exact c
def tkX(t:Tok):Int × ByteArray × Int:=(t.kind,⟨t.text.toArray⟩,t.value)
theorem Qeo:∀(f:Nat) (l acc:List UInt8) (i:Nat),(qtA f l acc i).1.length≤acc.length+l.length:=by
 intro f
 induction f with
 | zero=>intro l acc i;simp[qtA]
 | succ f ih=>
  intro l acc i
  cases l with
  | nil=>simp[qtA]
  | cons c r=>
   simp only[qtA]
   split
   ·simp
   ·split
    ·simp
    ·split
     ·split
      ·simp
      ·have:=ih (r.drop (esc r).2.1) (acc++[(esc r).1.toNat.toUInt8]) (i+(esc r).2.1+1)
       simp only[List.length_append,List.length_cons,List.length_nil,List.length_drop]at this ⊢
       omega
     ·have:=ih r (acc++[c]) (i+1)
      simp only[List.length_append,List.length_cons,List.length_nil]at this ⊢
      omega
theorem Qol(l:List UInt8):(QJa l).1.text.length≤l.length:=by
 have hs:(if Qyc l > 0 then((⟨4,l.take (Qyc l),0,0,0⟩:Tok),Qyc l,(0:Int))else(⟨0,[],0,0,0⟩,0,20)).1.text.length≤l.length:=by
  split
  ·simp[List.length_take];omega
  ·simp
 unfold QJa
 simp only[]
 split
 ·split
  ·simp[List.length_take];omega
  ·split
   ·simp[List.length_take];omega
   ·simp
 ·split
  ·simp
  ·split
   ·have:=Qeo l.length (l.drop 1) [] 1
    simp only[List.length_nil,List.length_drop]at this
    show(qtA l.length (l.drop 1) [] 1).1.length≤_
    omega
   ·split
    ·simp[List.length_take];omega
    ·split
     ·split
      ·simp[List.length_take];omega
      ·exact hs
     ·exact hs
theorem Qso(file:Int)(N:Nat):∀(f:Nat) (l:List UInt8) (p:Int × Int) (acc:List Tok),l.length≤N→acc.length≤6000→(∀t∈acc,t.text.length≤N)→
 (∀t∈(rdA file f l p acc).1,t.text.length≤N)∧(rdA file f l p acc).1.length≤6001∧((rdA file f l p acc).2.2=0→∃ts t,(rdA file f l p acc).1=ts++[t]∧t.kind=8):=by
 intro f
 induction f with
 | zero=>intro l p acc _ _ _;simp[rdA]
 | succ f ih=>
  intro l p acc hl ha ht
  rw[rdA]
  simp only[]
  split
  ·simp
  ·split
   ·simp
   ·split
    ·refine⟨?_,by simp;omega,fun _=>⟨_,_,rfl,rfl⟩⟩
     intro t h
     rcases List.mem_append.1 h with h|h
     ·exact ht t h
     ·rw[List.mem_singleton.1 h];simp
    ·split
     ·rename_i hn
      exact⟨by simp,by simp,fun e=>absurd e hn⟩
     ·rename_i hn _ _
      refine ih _ _ _ (by simp;omega) (by simp;omega) ?_
      intro t h
      rcases List.mem_append.1 h with h|h
      ·exact ht t h
      ·rw[List.mem_singleton.1 h]
       have:=Qol (l.drop (blk l.length l).1)
       simp only[List.length_drop]at this
       show(QJa (l.drop (blk l.length l).1)).1.text.length≤N
       omega
theorem Qke(l:List UInt8)(file:Int):(∀t∈(QUb l file).1,t.text.length≤16000)∧(QUb l file).1.length≤6001∧((QUb l file).2.2=0→∃ts t,(QUb l file).1=ts++[t]∧t.kind=8):=by
 unfold QUb
 split
 ·simp
 ·exact Qso file 16000 _ l (1,1) [] (by omega) (by simp) (by simp)
def QKc:Wh→Nat
 | .prim=>1
 | .opnd=>2
 | .lvl k=>2*k+3
 | .loop k _=>2*k+4
 | .whole=>30
def okW:Wh→Prop
 | .lvl k=>k≤10
 | .loop k _=>k<10
 | _=>True
def QRo:Wh→Bool
 | .loop _ _=>true
 | _=>false
theorem Q4k{L:List (Int × ByteArray × Int)}{i:Nat}(h:Qya L i≠⟨#[]⟩):i<L.length:=Qad h
theorem QXf(L:List (Int × ByteArray × Int)):∀(n:Nat) (W:Wh) (d i:Nat),okW W→40*(L.length-i)+QKc W≤n→
 ∃r,evT L n W d i=some r∧∀q,r=some q→i≤q.2.1∧(QRo W=false→i<q.2.1):=by
 intro n
 induction n with
 | zero=>intro W d i _ h;cases W <;> simp[QKc]at h
 | succ n ih=>
  intro W d i hk h
  cases W with
  | prim=>
   rw[evT]
   simp only[QKc]at h
   by_cases hp:Qya L i=⟨#[40]⟩
   ·have Hh:=Q4k (i:=i) (by rw[hp];decide)
    obtain⟨r,hr,hq⟩:=ih .whole (d+1) (i+1) trivial (by simp only[QKc];omega)
    rw[if_pos hp,hr]
    refine⟨_,rfl,fun q e=>?_⟩
    cases r with
    | none=>cases e
    | some r=>
     have e':(if Qya L r.2.1=⟨#[41]⟩then some (r.1,r.2.1+1,r.2.2)else none)=some q:=e
     have:=(hq r rfl).2 rfl
     split at e'
     ·obtain rfl:=Option.some.inj e'
      exact⟨by show i≤r.2.1+1;omega,fun _=>by show i<r.2.1+1;omega⟩
     ·cases e'
   ·rw[if_neg hp]
    refine⟨_,rfl,fun q e=>?_⟩
    cases ht:L[i]? with
    | none=>rw[ht]at e;cases e
    | some t=>
     rw[ht]at e
     have e':(if t.1=2 then some (t.2.2 % 4294967296,i+1,decide (8<d),decide (t.2.2<0) || decide (4294967295<t.2.2),false)else none)=some q:=e
     split at e'
     ·obtain rfl:=Option.some.inj e'
      exact⟨by show i≤i+1;omega,fun _=>by show i<i+1;omega⟩
     ·cases e'
  | opnd=>
   rw[evT]
   simp only[QKc]at h
   by_cases hp:unB (Qya L i)=true
   ·have Hh:=Q4k (i:=i) (Qcr hp)
    obtain⟨r,hr,hq⟩:=ih .opnd d (i+1) trivial (by simp only[QKc];omega)
    rw[if_pos hp,hr]
    refine⟨_,rfl,fun q e=>?_⟩
    cases r with
    | none=>cases e
    | some r=>
     obtain rfl:=Option.some.inj e
     have:=(hq r rfl).2 rfl
     exact⟨by show i≤r.2.1;omega,fun _=>by show i<r.2.1;omega⟩
   ·rw[if_neg hp]
    obtain⟨r,hr,hq⟩:=ih .prim d i trivial (by simp only[QKc];omega)
    exact⟨r,hr,fun q e=>⟨(hq q e).1,fun _=>(hq q e).2 rfl⟩⟩
  | lvl k=>
   simp only[QKc]at h
   cases k with
   | zero=>
    rw[evT]
    obtain⟨r,hr,hq⟩:=ih .opnd d i trivial (by simp only[QKc];omega)
    exact⟨r,hr,fun q e=>⟨(hq q e).1,fun _=>(hq q e).2 rfl⟩⟩
   | succ k=>
    have Hp:k+1≤10:=hk
    rw[evT]
    obtain⟨r,hr,hq⟩:=ih (.lvl k) d i (show k≤10 by omega) (by simp only[QKc];omega)
    rw[hr]
    cases r with
    | none=>exact⟨none,rfl,fun q e=>by cases e⟩
    | some q=>
     have Hh:=(hq q rfl).2 rfl
     obtain⟨r2,gT,jl⟩:=ih (.loop k q.1) d q.2.1 (show k<10 by omega) (by simp only[QKc];omega)
     refine⟨_,by show Option.map _ _=_;rw[gT];rfl,fun q2 e=>?_⟩
     cases r2 with
     | none=>cases e
     | some r2=>
      obtain rfl:=Option.some.inj e
      have:=(jl r2 rfl).1
      exact⟨by show i≤r2.2.1;omega,fun _=>by show i<r2.2.1;omega⟩
  | loop k v=>
   simp only[QKc]at h
   have Hp:k<10:=hk
   rw[evT]
   cases hr:Qlc k (Qya L i)with
   | none=>exact⟨_,rfl,fun q e=>by obtain rfl:=Option.some.inj e;exact⟨Nat.le_refl _,fun e=>by cases e⟩⟩
   | some f=>
    have Hh:=Q4k (i:=i) (Q2o hr)
    obtain⟨r,gi,hq⟩:=ih (.lvl k) d (i+1) (show k≤10 by omega) (by simp only[QKc];omega)
    show ∃r,Option.bind _ _=some r∧_
    rw[gi]
    cases r with
    | none=>exact⟨none,rfl,fun q e=>by cases e⟩
    | some q=>
     have kp:=(hq q rfl).2 rfl
     obtain⟨r2,gT,jl⟩:=ih (.loop k (Q4b f v (if Qib f q.1=true then 1 else q.1))) d q.2.1 Hp (by simp only[QKc];omega)
     refine⟨_,by show Option.map _ _=_;rw[gT];rfl,fun q2 e=>?_⟩
     cases r2 with
     | none=>cases e
     | some r2=>
      obtain rfl:=Option.some.inj e
      have:=(jl r2 rfl).1
      exact⟨by show i≤r2.2.1;omega,fun e=>by cases e⟩
  | whole=>
   simp only[QKc]at h
   rw[evT]
   obtain⟨r,hr,hq⟩:=ih (.lvl 10) d i (show 10≤10 by omega) (by simp only[QKc];omega)
   rw[hr]
   cases r with
   | none=>exact⟨none,rfl,fun q e=>by cases e⟩
   | some q=>
    have Hh:=(hq q rfl).2 rfl
    show ∃r,(if Qya L q.2.1=⟨#[63]⟩then _ else _)=some r∧_
    by_cases hs:Qya L q.2.1=⟨#[63]⟩
    ·have gB:=Q4k (i:=q.2.1) (by rw[hs];decide)
     rw[if_pos hs]
     obtain⟨y,hy,J4⟩:=ih .whole d (q.2.1+1) trivial (by simp only[QKc];omega)
     rw[hy]
     cases y with
     | none=>exact⟨none,rfl,fun q e=>by cases e⟩
     | some y=>
      have hly:=(J4 y rfl).2 rfl
      show ∃r,(if Qya L y.2.1=⟨#[58]⟩then _ else _)=some r∧_
      by_cases hc:Qya L y.2.1=⟨#[58]⟩
      ·rw[if_pos hc]
       obtain⟨z,hz,yy⟩:=ih .whole d (y.2.1+1) trivial (by simp only[QKc];omega)
       rw[hz]
       refine⟨_,rfl,fun q2 e=>?_⟩
       cases z with
       | none=>cases e
       | some z=>
        obtain rfl:=Option.some.inj e
        have:=(yy z rfl).1
        exact⟨by show i≤z.2.1;omega,fun _=>by show i<z.2.1;omega⟩
      ·rw[if_neg hc];exact⟨none,rfl,fun q e=>by cases e⟩
    ·rw[if_neg hs]
     exact⟨_,rfl,fun q2 e=>by obtain rfl:=Option.some.inj (Option.some.inj e |> fun h=>by exact congrArg some h);exact⟨by omega,fun _=>Hh⟩⟩
def evF(L:List (Int × ByteArray × Int))(W:Wh)(d i:Nat):Option (Int × Nat × Bool × Bool × Bool):=(evT L (40*L.length+40) W d i).getD none
theorem Q9l(L:List (Int × ByteArray × Int))(W:Wh)(d i:Nat)(h:okW W):Rd L W d i (evF L W d i):=by
 have hf:QKc W≤40:=by
  cases W with
  | lvl k=>have:k≤10:=h;simp only[QKc];omega
  | loop k v=>have:k<10:=h;simp only[QKc];omega
  | _=>simp[QKc]
 obtain⟨r,hr,_⟩:=QXf L (40*L.length+40) W d i h (by omega)
 exact⟨_,by unfold evF;rw[hr];rfl⟩
theorem Rd.evF{L:List (Int × ByteArray × Int)}{W:Wh}{d i:Nat}{res:Option (Int × Nat × Bool × Bool × Bool)}(h:Rd L W d i res)(hk:okW W):evF L W d i=res:=(Q9l L W d i hk).det h
def cvT(t:Int × List UInt8 × Int):Int × ByteArray × Int:=(t.1,⟨t.2.1.toArray⟩,t.2.2)
def AtT(L:List (Int × ByteArray × Int))(i:Nat)(T:List (Int × ByteArray × Int)):Prop:=∃R,L.drop i=T++R
section
variable{L T U:List (Int × ByteArray × Int)}{i d j j2 k f:Nat}{t:Int × ByteArray × Int}{v x y:Int}{s b:ByteArray}
theorem AtT.left(h:AtT L i (T++U)):AtT L i T:=by
 obtain⟨R,h⟩:=h;exact⟨U++R,by rw[h,List.append_assoc]⟩
theorem AtT.right(h:AtT L i (T++U)):AtT L (i+T.length) U:=by
 obtain⟨R,h⟩:=h;exact⟨R,by rw[←List.drop_drop,h,List.append_assoc,List.drop_left]⟩
theorem AtT.get(h:AtT L i (t::U)):L[i]? = some t:=by
 obtain⟨R,h⟩:=h
 have e:(L.drop i)[0]? = some t:=by rw[h];rfl
 simpa using e
theorem AtT.sgn(h:AtT L i ((4,s,v)::U)):Qya L i=s:=by unfold Qya;rw[h.get];rfl
def Qvq(s:ByteArray):Prop:=s=⟨#[]⟩∨s=⟨#[41]⟩∨s=⟨#[58]⟩
theorem Q7l(h:Qvq s):∀q,q<10→Qlc q s=none:=by
 rcases h with rfl|rfl|rfl <;> decide
theorem Qwq(h:Qvq s):s≠⟨#[63]⟩:=by
 rcases h with rfl|rfl|rfl <;> decide
theorem QVh(K:Nat)(h:Rd L .opnd d i (some (v,j,noF)))(hn:∀q,q<K→Qlc q (Qya L j)=none):Rd L (.lvl K) d i (some (v,j,noF)):=by
 have:=QZm h K _ (QXk K hn)
 simpa[Quj,orF,noF]using this
theorem Qpe(h:Rd L .opnd d i (some (v,j,noF)))(he:Qvq (Qya L j)):Rd L .whole d i (some (v,j,noF)):=
 Q6f (QVh 10 h (Q7l he)) (Qwq he)
theorem Q2n(h:Qya L i=⟨#[40]⟩)(hw:Rd L .whole (d+1) (i+1) (some (v,j,noF)))(hr:Qya L j=⟨#[41]⟩):Rd L .opnd d i (some (v,j+1,noF)):=
 Q9h (by rw[h];decide) (Q0m h hw hr)
theorem QZh(h:L[i]? = some (2,b,v))(h0:0≤v)(h1:v≤4294967295)(hd:d≤8):Rd L .opnd d i (some (v,i+1,noF)):=by
 have hs:Qya L i=⟨#[]⟩:=by unfold Qya;rw[h];rfl
 have:=Q9i (d:=d) (by rw[hs];decide) h rfl
 have e1:v % 4294967296=v:=Int.emod_eq_of_lt h0 (by omega)
 have e2:decide (8<d)=false:=by simp;omega
 have e3:decide (v<0)=false:=by simp;omega
 have e4:decide (4294967295<v)=false:=by simp;omega
 simp only[e1,e2,e3,e4,Bool.or_false]at this
 exact Q9h (by rw[hs];decide) this
theorem QKp(hs:unB (Qya L i)=true)(h:Rd L .opnd d (i+1) (some (v,j,noF))):Rd L .opnd d i (some (unT (Qya L i) v,j,noF)):=Qdq hs h
theorem QAp(h:Rd L .opnd d i (some (x,j,noF)))(hr:Qlc k (Qya L j)=some f)(hk:k<10)(hm:∀m,m<k→Qlc m (Qya L j)=none)(h2:Rd L .opnd d (j+1) (some (y,j2,noF)))
 (he:∀q,q<10→Qlc q (Qya L j2)=none) (hd:Qib f y=false):Rd L (.lvl 10) d i (some (Q4b f x y,j2,noF)):=by
 have e:=Qfq (x:=x) hr hm (QVh k h2 (fun q hq=>he q (by omega))) 10 hk (some (Q4b f x y,j2,noF)) (by
  show RL L 10 (Q4b f x (if Qib f y=true then 1 else y)) d j2 _
  rw[hd]
  exact QXk 10 he)
 have:=QZm h 10 _ e
 simpa[Quj,orF,noF,hd]using this
theorem Qoj(h:Rd L .opnd d i (some (x,j,noF)))(hr:Qlc k (Qya L j)=some f)(hk:k<10)(hm:∀m,m<k→Qlc m (Qya L j)=none)(h2:Rd L .opnd d (j+1) (some (y,j2,noF)))
 (he:Qvq (Qya L j2)) (hd:Qib f y=false):Rd L .whole d i (some (Q4b f x y,j2,noF)):=
 Q6f (QAp h hr hk hm h2 (Q7l he) hd) (Qwq he)
theorem QHo{z:Int}{j3:Nat}(h:Rd L (.lvl 10) d i (some (x,j,noF)))(hq:Qya L j=⟨#[63]⟩)(h2:Rd L .whole d (j+1) (some (y,j2,noF)))(hc:Qya L j2=⟨#[58]⟩)
 (h3:Rd L .whole d (j2+1) (some (z,j3,noF))):Rd L .whole d i (some (if x=0 then z else y,j3,noF)):=by
 have:=QYm h hq h2 hc h3
 simpa[orF,noF]using this
end
def Qmd:List (ByteArray × Nat × Nat):=[(⟨#[42]⟩,0,1),(⟨#[47]⟩,0,2),(⟨#[37]⟩,0,3),(⟨#[43]⟩,1,4),(⟨#[45]⟩,1,5),(⟨#[60,60]⟩,2,6),(⟨#[62,62]⟩,2,7),(⟨#[60]⟩,3,8),(⟨#[62]⟩,3,9),(⟨#[60,61]⟩,3,10),(⟨#[62,61]⟩,3,11),(⟨#[61,61]⟩,4,12),(⟨#[33,61]⟩,4,13),(⟨#[38]⟩,5,14),(⟨#[94]⟩,6,15),(⟨#[124]⟩,7,16),(⟨#[38,38]⟩,8,17),(⟨#[124,124]⟩,9,18)]
theorem Q1k:∀e∈Qmd,Qlc e.2.1 e.1=some e.2.2∧e.2.1<10∧(∀m,m<10→m≠e.2.1→Qlc m e.1=none)∧e.1≠⟨#[63]⟩:=by decide
def Qsn:Nat→Nat
 | 0=>10
 | k+1=>2*Qsn k+20
def QKo:Nat→Nat
 | 0=>1
 | k+1=>2*QKo k+7
theorem QMo:∀k,10≤Qsn k:=by
 intro k;cases k <;> simp[Qsn]
theorem QLo:∀k,1≤QKo k:=by
 intro k;cases k <;> simp[QKo]
def QJo(c:UInt8):Bool:=decide (c≠34) && decide (c≠59) && decide (c≠123) && decide (c≠125) && decide (c≠92) && decide (c≠105)
theorem Qoi(n:Nat):(Qeb 10 false n).all QJo=true:=by
 rw[List.all_eq_true]
 exact Qce 10 false (by omega) (by omega) (fun c=>QJo c=true) (by decide) n n (Nat.le_refl _)
structure XG(k:Nat)(a:List UInt8)(x:Int):Prop where
 lo:0≤x
 hi:x≤4294967295
 len:a.length≤Qsn k
 chr:a.all QJo=true
 ex:∃T:List (Int × List UInt8 × Int),T.length≤QKo k∧(∀r,(r=[]∨∃r',r=41::r')→Lx a T r)∧
  ∀(L:List (Int × ByteArray × Int)) (i d:Nat),d+k≤8→AtT L i (T.map cvT)→Qvq (Qya L (i+T.length))→Rd L .whole d i (some (x,i+T.length,noF))
structure XO(k:Nat)(a:List UInt8)(x:Int):Prop where
 lo:0≤x
 hi:x≤4294967295
 len:a.length≤Qsn k+2
 chr:a.all QJo=true
 ex:∃T:List (Int × List UInt8 × Int),T.length≤QKo k+2∧(∀r,Lx a T r)∧
  ∀(L:List (Int × ByteArray × Int)) (i d:Nat),d+k+1≤8→AtT L i (T.map cvT)→Rd L .opnd d i (some (x,i+T.length,noF))
theorem XG.par{k:Nat}{a:List UInt8}{x:Int}(h:XG k a x):XO k (40::(a++[41])) x:=by
 obtain⟨h1,h2,h3,hq,T,hc,hT,hR⟩:=h
 refine⟨h1,h2,by simp;omega,by simp only[List.all_cons,List.all_append,hq];decide,[(4,[40],0)]++(T++[(4,[41],0)]),by simp;omega,fun r=>?_,fun L i d hd hA=>?_⟩
 ·exact Lx.append (x:=[40]) (Lx.lpar _) (Lx.append (hT _ (.inr ⟨_,rfl⟩)) (Lx.rpar r))
 ·simp only[List.map_append]at hA
  have e0:=hA.left.sgn (s:=⟨#[40]⟩)
  have hB:=hA.right
  have hC:=hB.right.sgn (s:=⟨#[41]⟩)
  simp only[List.length_map,List.length_cons,List.length_nil,Nat.zero_add]at hB hC
  have:=Q2n e0 (hR L (i+1) (d+1) (by omega) hB.left (by rw[hC];exact .inr (.inl rfl))) hC
  simpa[Nat.add_assoc,Nat.add_comm,Nat.add_left_comm]using this
theorem XG.num(k n:Nat)(h:n≤4294967295):XG k (Qeb 10 false n) n:=by
 refine⟨by omega,by omega,?_,Qoi n,[(2,[],(n:Int))],by simpa using QLo k,fun r hr=>?_,fun L i d hd hA he=>?_⟩
 ·have:=QHf n h
  have:=QMo k
  omega
 ·refine Lx.dec h ?_
  rcases hr with rfl|⟨r',rfl⟩
  ·exact .inl rfl
  ·exact .inr (by rfl)
 ·exact Qpe (QZh hA.get (by omega) (by omega) (by omega)) he
theorem XO.un{k:Nat}{a:List UInt8}{x:Int}{c:UInt8}(hc:c=45∨c=126∨c=33)(h:XG k a x):XG (k+1) (c::(40::(a++[41]))) (unT ⟨#[c]⟩ x):=by
 obtain⟨h1,h2,h3,hq,T,xS,hT,hR⟩:=h.par
 have hu:unB ⟨#[c]⟩=true:=by rcases hc with rfl|rfl|rfl <;> decide
 have hb:0≤unT ⟨#[c]⟩ x∧unT ⟨#[c]⟩ x≤4294967295:=by
  unfold unT QQc
  split
  ·omega
  ·split
   ·omega
   ·split <;> omega
 refine⟨hb.1,hb.2,by simp only[Qsn,List.length_cons]at h3 ⊢;omega,by rw[List.all_cons,hq];rcases hc with rfl|rfl|rfl <;> decide,[(4,[c],0)]++T,by simp only[QKo,List.length_append,List.length_cons,List.length_nil];omega,fun r _=>?_,fun L i d hd hA he=>?_⟩
 ·refine Lx.append (x:=[c]) ?_ (hT r)
  rcases hc with rfl|rfl|rfl
  ·exact Lx.minus _
  ·exact Lx.compl _
  ·exact Lx.bang _
 ·simp only[List.map_append]at hA
  have e0:=hA.left.sgn (s:=⟨#[c]⟩)
  have hB:=hA.right
  simp only[List.length_map,List.length_cons,List.length_nil,Nat.zero_add]at hB
  have:=QKp (by rw[e0];exact hu) (hR L (i+1) d (by omega) hB)
  rw[e0]at this
  have e1:i+([(4,[c],0)]++T:List (Int × List UInt8 × Int)).length=i+1+T.length:=by simp;omega
  rw[e1]at he ⊢
  exact Qpe this he
theorem XG.bin{k row f:Nat}{a b m s:List UInt8}{x y:Int}(ha:XG k a x)(hb:XG k b y)(hs:(⟨s.toArray⟩,row,f)∈Qmd)(hm:∀r,Lx m [(4,s,0)] (40::r))(jT:m.length≤4∧m.all QJo=true)(hd:Qib f y=false)
 (h0:0≤Q4b f x y) (h1:Q4b f x y≤4294967295):XG (k+1) (40::(a++[41])++(m++(40::(b++[41])))) (Q4b f x y):=by
 obtain⟨a1,a2,a3,aq,T,ac,aT,aR⟩:=ha.par
 obtain⟨b1,b2,b3,bq,U,bc,bT,bR⟩:=hb.par
 obtain⟨r1,r2,r3,_⟩:=Q1k _ hs
 simp only at r1 r2 r3
 refine⟨h0,h1,by simp only[Qsn,List.length_append]at a3 b3 ⊢;have:=jT.1;omega,by simp only[List.all_append,aq,bq,jT.2];decide,T++([(4,s,0)]++U),by simp only[QKo,List.length_append,List.length_cons,List.length_nil]at ac bc ⊢;omega,fun r _=>?_,fun L i d hd' hA he=>?_⟩
 ·exact Lx.append (aT _) (Lx.append (hm _) (bT r))
 ·simp only[List.map_append]at hA
  have hB:=hA.right
  have e0:=hB.left.sgn (s:=⟨s.toArray⟩)
  have hC:=hB.right
  simp only[List.length_map,List.length_cons,List.length_nil,Nat.zero_add]at e0 hC
  have hx:=aR L i d (by omega) hA.left
  have hy:=bR L (i+T.length+1) d (by omega) hC
  have e1:i+(T++([(4,s,0)]++U)).length=i+T.length+1+U.length:=by simp;omega
  rw[e1]at he ⊢
  exact Qoj hx (by rw[e0];exact r1) r2 (fun q hq=>by rw[e0];exact r3 q (by omega) (by omega)) hy he hd
theorem XG.binN{k row f n:Nat}{a m s:List UInt8}{x:Int}(ha:XG k a x)(hs:(⟨s.toArray⟩,row,f)∈Qmd)(hm:∀r,Lx m [(4,s,0)] (32::r))(jT:m.length≤4∧m.all QJo=true)(hn:n<10)(hd:Qib f n=false)
 (h0:0≤Q4b f x n) (h1:Q4b f x n≤4294967295):XG (k+1) (40::(a++[41])++(m++(32::Qeb 10 false n))) (Q4b f x n):=by
 obtain⟨a1,a2,a3,aq,T,ac,aT,aR⟩:=ha.par
 obtain⟨r1,r2,r3,_⟩:=Q1k _ hs
 simp only at r1 r2 r3
 have hl:(Qeb 10 false n).length=1:=by rw[QXa 10 false n hn];rfl
 refine⟨h0,h1,by simp only[Qsn,List.length_append,List.length_cons,hl]at a3 ⊢;have:=jT.1;omega,by simp only[List.all_append,List.all_cons,aq,jT.2,Qoi];decide,T++([(4,s,0)]++([]++[(2,[],(n:Int))])),by simp only[QKo,List.length_append,List.length_cons,List.length_nil]at ac ⊢;omega,fun r hr=>?_,fun L i d hd' hA he=>?_⟩
 ·refine Lx.append (aT _) (Lx.append (hm _) (Lx.append (x:=[32]) (Lx.sp _) (Lx.dec (by omega) ?_)))
  rcases hr with rfl|⟨r',rfl⟩
  ·exact .inl rfl
  ·exact .inr (by rfl)
 ·simp only[List.map_append,List.nil_append,List.map_nil]at hA he ⊢
  have hB:=hA.right
  have e0:=hB.left.sgn (s:=⟨s.toArray⟩)
  have hC:=hB.right
  simp only[List.length_map,List.length_cons,List.length_nil,Nat.zero_add]at e0 hC
  have hx:=aR L i d (by omega) hA.left
  have hy:=QZh (d:=d) (b:=⟨([]:List UInt8).toArray⟩) (v:=(n:Int)) hC.get (by omega) (by omega) (by omega)
  have e1:i+(T++([(4,s,0)]++[(2,[],(n:Int))])).length=i+T.length+1+1:=by simp;omega
  rw[e1]at he ⊢
  exact Qoj hx (by rw[e0];exact r1) r2 (fun q hq=>by rw[e0];exact r3 q (by omega) (by omega)) hy he hd
theorem XG.cond{k:Nat}{a b:List UInt8}{x y:Int}(ha:XG k a x)(hb:XG k b y):XG (k+1) (40::(a++[41])++([32,63,32]++(40::(b++[41])++([32,58,32]++Qeb 10 false 5)))) (if x=0 then 5 else y):=by
 obtain⟨a1,a2,a3,aq,T,ac,aT,aR⟩:=ha.par
 obtain⟨b1,b2,b3,bq,U,bc,bT,bR⟩:=hb.par
 have hl:(Qeb 10 false 5).length=1:=by rw[QXa 10 false 5 (by omega)];rfl
 refine⟨by split <;> omega,by split <;> omega,by simp only[Qsn,List.length_append,List.length_cons,List.length_nil,hl]at a3 b3 ⊢;omega,by simp only[List.all_append,aq,bq,Qoi];decide,
  T++([(4,[63],0)]++(U++([(4,[58],0)]++[(2,[],((5:Nat):Int))]))),by simp only[QKo,List.length_append,List.length_cons,List.length_nil]at ac bc ⊢;omega,fun r hr=>?_,fun L i d hd' hA he=>?_⟩
 ·have sgnLx:∀(c:UInt8) (r:List UInt8),(∀r,Lx [c] [(4,[c],0)] r)→Lx [32,c,32] [(4,[c],0)] r:=by
   intro c r hc
   exact Lx.append (x:=[32]) (T:=[]) (y:=[c,32]) (Lx.sp _) (Lx.append (x:=[c]) (U:=[]) (hc _) (Lx.sp r))
  refine Lx.append (aT _) (Lx.append (sgnLx 63 _ Lx.quest) (Lx.append (bT _) (Lx.append (sgnLx 58 _ Lx.colon) (Lx.dec (by omega) ?_))))
  rcases hr with rfl|⟨r',rfl⟩
  ·exact .inl rfl
  ·exact .inr (by rfl)
 ·simp only[List.map_append]at hA
  have hB:=hA.right
  have e0:=hB.left.sgn (s:=⟨#[63]⟩)
  have hC:=hB.right
  have hD:=hC.right
  have e2:=hD.left.sgn (s:=⟨#[58]⟩)
  have hE:=hD.right
  simp only[List.length_map,List.length_cons,List.length_nil,Nat.zero_add]at e0 hC e2 hE
  have hx:=aR L i d (by omega) hA.left
  have hy:=bR L (i+T.length+1) d (by omega) hC.left
  have hz:=QZh (d:=d) (b:=⟨([]:List UInt8).toArray⟩) (v:=((5:Nat):Int)) hE.get (by omega) (by omega) (by omega)
  have e1:i+(T++([(4,[63],0)]++(U++([(4,[58],0)]++[(2,[],((5:Nat):Int))])))).length=i+T.length+1+U.length+1+1:=by simp;omega
  rw[e1]at he ⊢
  exact QHo (QVh 10 hx (by rw[e0];decide)) e0 (Qpe hy (by rw[e2];exact .inr (.inr rfl))) e2 (Qpe hz he)
end Go.Proofs.YtofhcgbihonckaaGreat
