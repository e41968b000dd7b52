/- Plain laws: how far a reader of expressions goes; how long tokens are. | Plain laws: how much fuel a reader of expressions needs. -/
import Derived.Test.YtgaboghigefgbaaGreatDoorZ11
import Derived.Test.YtgaboghigefgbaaGreatDoorZ6
set_option linter.all false
namespace Go.Proofs.YtgaboghigefgbaaGreatDoor
open Go.RowKit
theorem QRr{L:List (Int × ByteArray × Int)}{i:Nat}(h:Qkb L i≠⟨#[]⟩):∃t,L[i]? = some t∧t.1=4:=by
 unfold Qkb at h
 cases e:L[i]? with
 | none=>rw[e]at h;exact absurd rfl h
 | some t=>
  rw[e]at h
  refine⟨t,rfl,?_⟩
  by_cases ht:t.1=4
  ·exact ht
  ·exact absurd (by show(if t.1=4 then _ else _)=_;rw[if_neg ht]) h
def Run(L:List (Int × ByteArray × Int))(i j:Nat):Prop:=i≤j∧∀m,i≤m→m<j→∃t,L[m]? = some t∧(t.1=4∨t.1=2)
theorem Run.refl(L:List (Int × ByteArray × Int))(i:Nat):Run L i i:=⟨Nat.le_refl _,fun m h1 h2=>by omega⟩
theorem Run.one{L:List (Int × ByteArray × Int)}{i:Nat}{t:Int × ByteArray × Int}(h:L[i]? = some t)(k:t.1=4∨t.1=2):Run L i (i+1):=
 ⟨by omega,fun m h1 h2=>by obtain rfl:m=i:=by omega
                           exact⟨t,h,k⟩⟩
theorem Run.trans{L:List (Int × ByteArray × Int)}{i j k:Nat}(h:Run L i j)(h2:Run L j k):Run L i k:=
 ⟨Nat.le_trans h.1 h2.1,fun m h3 h4=>by
  rcases Nat.lt_or_ge m j with c|c
  ·exact h.2 m h3 c
  ·exact h2.2 m c h4⟩
theorem Run.sgn{L:List (Int × ByteArray × Int)}{i:Nat}(h:Qkb L i≠⟨#[]⟩):Run L i (i+1):=by
 obtain⟨t,h1,h2⟩:=QRr h
 exact .one h1 (.inl h2)
theorem Qdu{s:ByteArray}(h:unB s=true):s≠⟨#[]⟩:=by rintro rfl;exact absurd h (by decide)
theorem Qis{k:Nat}{s:ByteArray}{f:Nat}(h:QJj k s=some f):s≠⟨#[]⟩:=by
 rintro rfl
 rcases Nat.lt_or_ge k 10 with c|c
 ·rw[Qph k c]at h;cases h
 ·unfold QJj at h
  rw[show Q8d.getD k []=[]from by rw[List.getD_eq_getElem?_getD,List.getElem?_eq_none (by simpa[Q8d]using c)];rfl]at h
  cases h
theorem QDt(L:List (Int × ByteArray × Int)):∀(n:Nat) (W:Wh) (d i:Nat) (q:Int × Nat × Bool × Bool × Bool),evT L n W d i=some (some q)→Run L i q.2.1:=by
 intro n
 induction n with
 | zero=>intro W d i q h;simp[evT]at h
 | succ n ih=>
  intro W d i q h
  cases W with
  | prim=>
   simp only[evT]at h
   by_cases hp:Qkb L i=⟨#[40]⟩
   ·rw[if_pos hp]at h
    obtain⟨r,hr,e⟩:=Option.map_eq_some_iff.1 h
    cases r with
    | none=>simp at e
    | some r=>
     have h1:=ih _ _ _ _ hr
     simp only[Option.bind_some]at e
     by_cases hc:Qkb L r.2.1=⟨#[41]⟩
     ·rw[if_pos hc]at e
      obtain rfl:=Option.some.inj e
      exact((Run.sgn (by rw[hp];decide)).trans h1).trans (Run.sgn (by rw[hc];decide))
     ·rw[if_neg hc]at e;cases e
   ·rw[if_neg hp]at h
    cases e:L[i]? with
    | none=>rw[e]at h;cases h
    | some t=>
     rw[e]at h
     have h':(if t.1=2 then some (t.2.2 % 4294967296,i+1,decide (8<d),decide (t.2.2<0) || decide (4294967295<t.2.2),false)else none)=some q:=Option.some.inj h
     by_cases ht:t.1=2
     ·rw[if_pos ht]at h'
      obtain rfl:=Option.some.inj h'
      exact .one e (.inr ht)
     ·rw[if_neg ht]at h';cases h'
  | opnd=>
   simp only[evT]at h
   by_cases hp:unB (Qkb L i)=true
   ·rw[if_pos hp]at h
    obtain⟨r,hr,e⟩:=Option.map_eq_some_iff.1 h
    cases r with
    | none=>simp at e
    | some r=>
     have h1:=ih _ _ _ _ hr
     obtain rfl:=Option.some.inj e
     exact(Run.sgn (Qdu hp)).trans h1
   ·rw[if_neg hp]at h
    exact ih _ _ _ _ h
  | lvl k=>
   cases k with
   | zero=>simp only[evT]at h;exact ih _ _ _ _ h
   | succ k=>
    rw[evT]at h
    obtain⟨r,hr,e⟩:=Option.bind_eq_some_iff.1 h
    cases r with
    | none=>simp at e
    | some r=>
     obtain⟨r2,gd,e2⟩:=Option.map_eq_some_iff.1 e
     cases r2 with
     | none=>simp at e2
     | some r2=>
      have h1:=ih _ _ _ _ gd
      obtain rfl:=Option.some.inj e2
      exact(ih _ _ _ _ hr).trans h1
  | loop k v=>
   rw[evT]at h
   cases hr:QJj k (Qkb L i)with
   | none=>
    rw[hr]at h
    obtain rfl:=Option.some.inj (Option.some.inj h)
    exact .refl _ _
   | some f=>
    rw[hr]at h
    obtain⟨r,h1,e⟩:=Option.bind_eq_some_iff.1 h
    cases r with
    | none=>simp at e
    | some r=>
     obtain⟨r2,gd,e2⟩:=Option.map_eq_some_iff.1 e
     cases r2 with
     | none=>simp at e2
     | some r2=>
      have h3:=ih _ _ _ _ gd
      obtain rfl:=Option.some.inj e2
      exact((Run.sgn (Qis hr)).trans (ih _ _ _ _ h1)).trans h3
  | whole=>
   rw[evT]at h
   obtain⟨r,hr,e⟩:=Option.bind_eq_some_iff.1 h
   cases r with
   | none=>simp at e
   | some r=>
    have e':(if Qkb L r.2.1=⟨#[63]⟩then _ else _)=_:=e
    by_cases hs:Qkb L r.2.1=⟨#[63]⟩
    ·rw[if_pos hs]at e'
     obtain⟨y,hy,ey⟩:=Option.bind_eq_some_iff.1 e'
     cases y with
     | none=>simp at ey
     | some y=>
      have ey':(if Qkb L y.2.1=⟨#[58]⟩then _ else _)=_:=ey
      by_cases hc:Qkb L y.2.1=⟨#[58]⟩
      ·rw[if_pos hc]at ey'
       obtain⟨z,hz,ez⟩:=Option.map_eq_some_iff.1 ey'
       cases z with
       | none=>simp at ez
       | some z=>
        have h3:=ih _ _ _ _ hz
        obtain rfl:=Option.some.inj ez
        exact((((ih _ _ _ _ hr).trans (Run.sgn (by rw[hs];decide))).trans (ih _ _ _ _ hy)).trans (Run.sgn (by rw[hc];decide))).trans h3
      ·rw[if_neg hc]at ey';cases ey'
    ·rw[if_neg hs]at e'
     obtain rfl:=Option.some.inj (Option.some.inj e')
     exact ih _ _ _ _ hr
theorem Qau{L:List (Int × ByteArray × Int)}{W:Wh}{d i:Nat}{q:Int × Nat × Bool × Bool × Bool}(h:Rd L W d i (some q)):Run L i q.2.1:=by
 obtain⟨n,h⟩:=h;exact QDt L n W d i q h
theorem Q9p{L:List (Int × ByteArray × Int)}{W:Wh}{d i:Nat}{q:Int × Nat × Bool × Bool × Bool}{t:Int × ByteArray × Int}(h:Rd L W d i (some q)){k:Nat}(ht:L[k]? = some t)(h8:t.1=8)(bR:i≤k):q.2.1≤k:=by
 rcases Nat.lt_or_ge k q.2.1 with c|c
 ·obtain⟨u,hu,hk⟩:=(Qau h).2 k bR c
  rw[ht]at hu
  obtain rfl:=Option.some.inj hu
  omega
 ·exact c
def tkX(t:Tok):Int × ByteArray × Int:=(t.kind,⟨t.text.toArray⟩,t.value)
theorem QGr:∀(f:Nat) (l acc:List UInt8) (i:Nat),(qtA f l acc i).1.length≤acc.length+l.length:=by
 intro f
 induction f with
 | zero=>intro l acc i;simp[qtA]
 | succ f ih=>
  intro l acc i
  cases l with
  | nil=>simp[qtA]
  | cons c r=>
   simp only[qtA]
   split
   ·simp
   ·split
    ·simp
    ·split
     ·split
      ·simp
      ·have:=ih (r.drop (esc r).2.1) (acc++[(esc r).1.toNat.toUInt8]) (i+(esc r).2.1+1)
       simp only[List.length_append,List.length_cons,List.length_nil,List.length_drop]at this ⊢
       omega
     ·have:=ih r (acc++[c]) (i+1)
      simp only[List.length_append,List.length_cons,List.length_nil]at this ⊢
      omega
theorem QUn(l:List UInt8):(QZb l).1.text.length≤l.length:=by
 have hs:(if Qxd l > 0 then((⟨4,l.take (Qxd l),0,0,0⟩:Tok),Qxd l,(0:Int))else(⟨0,[],0,0,0⟩,0,20)).1.text.length≤l.length:=by
  split
  ·simp[List.length_take];omega
  ·simp
 unfold QZb
 simp only[]
 split
 ·split
  ·simp[List.length_take];omega
  ·split
   ·simp[List.length_take];omega
   ·simp
 ·split
  ·simp
  ·split
   ·have:=QGr l.length (l.drop 1) [] 1
    simp only[List.length_nil,List.length_drop]at this
    show(qtA l.length (l.drop 1) [] 1).1.length≤_
    omega
   ·split
    ·simp[List.length_take];omega
    ·split
     ·split
      ·simp[List.length_take];omega
      ·exact hs
     ·exact hs
theorem QIr(file:Int)(N:Nat):∀(f:Nat) (l:List UInt8) (p:Int × Int) (acc:List Tok),l.length≤N→acc.length≤6000→(∀t∈acc,t.text.length≤N)→
 (∀t∈(rdA file f l p acc).1,t.text.length≤N)∧(rdA file f l p acc).1.length≤6001∧((rdA file f l p acc).2.2=0→∃ts t,(rdA file f l p acc).1=ts++[t]∧t.kind=8):=by
 intro f
 induction f with
 | zero=>intro l p acc _ _ _;simp[rdA]
 | succ f ih=>
  intro l p acc hl ha ht
  rw[rdA]
  simp only[]
  split
  ·simp
  ·split
   ·simp
   ·split
    ·refine⟨?_,by simp;omega,fun _=>⟨_,_,rfl,rfl⟩⟩
     intro t h
     rcases List.mem_append.1 h with h|h
     ·exact ht t h
     ·rw[List.mem_singleton.1 h];simp
    ·split
     ·rename_i hn
      exact⟨by simp,by simp,fun e=>absurd e hn⟩
     ·rename_i hn _ _
      refine ih _ _ _ (by simp;omega) (by simp;omega) ?_
      intro t h
      rcases List.mem_append.1 h with h|h
      ·exact ht t h
      ·rw[List.mem_singleton.1 h]
       have:=QUn (l.drop (blk l.length l).1)
       simp only[List.length_drop]at this
       show(QZb (l.drop (blk l.length l).1)).1.text.length≤N
       omega
theorem Qho(l:List UInt8)(file:Int):(∀t∈(Qwd l file).1,t.text.length≤16000)∧(Qwd l file).1.length≤6001∧((Qwd l file).2.2=0→∃ts t,(Qwd l file).1=ts++[t]∧t.kind=8):=by
 unfold Qwd
 split
 ·simp
 ·exact QIr file 16000 _ l (1,1) [] (by omega) (by simp) (by simp)
def Qhd:Wh→Nat
 | .prim=>1
 | .opnd=>2
 | .lvl k=>2*k+3
 | .loop k _=>2*k+4
 | .whole=>30
def okW:Wh→Prop
 | .lvl k=>k≤10
 | .loop k _=>k<10
 | _=>True
def QRt:Wh→Bool
 | .loop _ _=>true
 | _=>false
theorem Qan{L:List (Int × ByteArray × Int)}{i:Nat}(h:Qkb L i≠⟨#[]⟩):i<L.length:=Q0g h
theorem QNm(L:List (Int × ByteArray × Int)):∀(n:Nat) (W:Wh) (d i:Nat),okW W→40*(L.length-i)+Qhd W≤n→
 ∃r,evT L n W d i=some r∧∀q,r=some q→i≤q.2.1∧(QRt W=false→i<q.2.1):=by
 intro n
 induction n with
 | zero=>intro W d i _ h;cases W <;> simp[Qhd]at h
 | succ n ih=>
  intro W d i hk h
  cases W with
  | prim=>
   rw[evT]
   simp only[Qhd]at h
   by_cases hp:Qkb L i=⟨#[40]⟩
   ·have Hh:=Qan (i:=i) (by rw[hp];decide)
    obtain⟨r,hr,hq⟩:=ih .whole (d+1) (i+1) trivial (by simp only[Qhd];omega)
    rw[if_pos hp,hr]
    refine⟨_,rfl,fun q e=>?_⟩
    cases r with
    | none=>cases e
    | some r=>
     have e':(if Qkb L r.2.1=⟨#[41]⟩then some (r.1,r.2.1+1,r.2.2)else none)=some q:=e
     have:=(hq r rfl).2 rfl
     split at e'
     ·obtain rfl:=Option.some.inj e'
      exact⟨by show i≤r.2.1+1;omega,fun _=>by show i<r.2.1+1;omega⟩
     ·cases e'
   ·rw[if_neg hp]
    refine⟨_,rfl,fun q e=>?_⟩
    cases ht:L[i]? with
    | none=>rw[ht]at e;cases e
    | some t=>
     rw[ht]at e
     have e':(if t.1=2 then some (t.2.2 % 4294967296,i+1,decide (8<d),decide (t.2.2<0) || decide (4294967295<t.2.2),false)else none)=some q:=e
     split at e'
     ·obtain rfl:=Option.some.inj e'
      exact⟨by show i≤i+1;omega,fun _=>by show i<i+1;omega⟩
     ·cases e'
  | opnd=>
   rw[evT]
   simp only[Qhd]at h
   by_cases hp:unB (Qkb L i)=true
   ·have Hh:=Qan (i:=i) (Qdu hp)
    obtain⟨r,hr,hq⟩:=ih .opnd d (i+1) trivial (by simp only[Qhd];omega)
    rw[if_pos hp,hr]
    refine⟨_,rfl,fun q e=>?_⟩
    cases r with
    | none=>cases e
    | some r=>
     obtain rfl:=Option.some.inj e
     have:=(hq r rfl).2 rfl
     exact⟨by show i≤r.2.1;omega,fun _=>by show i<r.2.1;omega⟩
   ·rw[if_neg hp]
    obtain⟨r,hr,hq⟩:=ih .prim d i trivial (by simp only[Qhd];omega)
    exact⟨r,hr,fun q e=>⟨(hq q e).1,fun _=>(hq q e).2 rfl⟩⟩
  | lvl k=>
   simp only[Qhd]at h
   cases k with
   | zero=>
    rw[evT]
    obtain⟨r,hr,hq⟩:=ih .opnd d i trivial (by simp only[Qhd];omega)
    exact⟨r,hr,fun q e=>⟨(hq q e).1,fun _=>(hq q e).2 rfl⟩⟩
   | succ k=>
    have gJ:k+1≤10:=hk
    rw[evT]
    obtain⟨r,hr,hq⟩:=ih (.lvl k) d i (show k≤10 by omega) (by simp only[Qhd];omega)
    rw[hr]
    cases r with
    | none=>exact⟨none,rfl,fun q e=>by cases e⟩
    | some q=>
     have Hh:=(hq q rfl).2 rfl
     obtain⟨r2,gd,kT⟩:=ih (.loop k q.1) d q.2.1 (show k<10 by omega) (by simp only[Qhd];omega)
     refine⟨_,by show Option.map _ _=_;rw[gd];rfl,fun q2 e=>?_⟩
     cases r2 with
     | none=>cases e
     | some r2=>
      obtain rfl:=Option.some.inj e
      have:=(kT r2 rfl).1
      exact⟨by show i≤r2.2.1;omega,fun _=>by show i<r2.2.1;omega⟩
  | loop k v=>
   simp only[Qhd]at h
   have gJ:k<10:=hk
   rw[evT]
   cases hr:QJj k (Qkb L i)with
   | none=>exact⟨_,rfl,fun q e=>by obtain rfl:=Option.some.inj e;exact⟨Nat.le_refl _,fun e=>by cases e⟩⟩
   | some f=>
    have Hh:=Qan (i:=i) (Qis hr)
    obtain⟨r,Hx,hq⟩:=ih (.lvl k) d (i+1) (show k≤10 by omega) (by simp only[Qhd];omega)
    show ∃r,Option.bind _ _=some r∧_
    rw[Hx]
    cases r with
    | none=>exact⟨none,rfl,fun q e=>by cases e⟩
    | some q=>
     have GR:=(hq q rfl).2 rfl
     obtain⟨r2,gd,kT⟩:=ih (.loop k (Qml f v (if QCl f q.1=true then 1 else q.1))) d q.2.1 gJ (by simp only[Qhd];omega)
     refine⟨_,by show Option.map _ _=_;rw[gd];rfl,fun q2 e=>?_⟩
     cases r2 with
     | none=>cases e
     | some r2=>
      obtain rfl:=Option.some.inj e
      have:=(kT r2 rfl).1
      exact⟨by show i≤r2.2.1;omega,fun e=>by cases e⟩
  | whole=>
   simp only[Qhd]at h
   rw[evT]
   obtain⟨r,hr,hq⟩:=ih (.lvl 10) d i (show 10≤10 by omega) (by simp only[Qhd];omega)
   rw[hr]
   cases r with
   | none=>exact⟨none,rfl,fun q e=>by cases e⟩
   | some q=>
    have Hh:=(hq q rfl).2 rfl
    show ∃r,(if Qkb L q.2.1=⟨#[63]⟩then _ else _)=some r∧_
    by_cases hs:Qkb L q.2.1=⟨#[63]⟩
    ·have GB:=Qan (i:=q.2.1) (by rw[hs];decide)
     rw[if_pos hs]
     obtain⟨y,hy,Dr⟩:=ih .whole d (q.2.1+1) trivial (by simp only[Qhd];omega)
     rw[hy]
     cases y with
     | none=>exact⟨none,rfl,fun q e=>by cases e⟩
     | some y=>
      have hly:=(Dr y rfl).2 rfl
      show ∃r,(if Qkb L y.2.1=⟨#[58]⟩then _ else _)=some r∧_
      by_cases hc:Qkb L y.2.1=⟨#[58]⟩
      ·rw[if_pos hc]
       obtain⟨z,hz,Dv⟩:=ih .whole d (y.2.1+1) trivial (by simp only[Qhd];omega)
       rw[hz]
       refine⟨_,rfl,fun q2 e=>?_⟩
       cases z with
       | none=>cases e
       | some z=>
        obtain rfl:=Option.some.inj e
        have:=(Dv z rfl).1
        exact⟨by show i≤z.2.1;omega,fun _=>by show i<z.2.1;omega⟩
      ·rw[if_neg hc];exact⟨none,rfl,fun q e=>by cases e⟩
    ·rw[if_neg hs]
     exact⟨_,rfl,fun q2 e=>by obtain rfl:=Option.some.inj (Option.some.inj e |> fun h=>by exact congrArg some h);exact⟨by omega,fun _=>Hh⟩⟩
def evF(L:List (Int × ByteArray × Int))(W:Wh)(d i:Nat):Option (Int × Nat × Bool × Bool × Bool):=(evT L (40*L.length+40) W d i).getD none
theorem Qas(L:List (Int × ByteArray × Int))(W:Wh)(d i:Nat)(h:okW W):Rd L W d i (evF L W d i):=by
 have hf:Qhd W≤40:=by
  cases W with
  | lvl k=>have:k≤10:=h;simp only[Qhd];omega
  | loop k v=>have:k<10:=h;simp only[Qhd];omega
  | _=>simp[Qhd]
 obtain⟨r,hr,_⟩:=QNm L (40*L.length+40) W d i h (by omega)
 exact⟨_,by unfold evF;rw[hr];rfl⟩
theorem Rd.evF{L:List (Int × ByteArray × Int)}{W:Wh}{d i:Nat}{res:Option (Int × Nat × Bool × Bool × Bool)}(h:Rd L W d i res)(hk:okW W):evF L W d i=res:=(Qas L W d i hk).det h
end Go.Proofs.YtgaboghigefgbaaGreatDoor
