/- Lemmas on the way to the law; no conditions. -/
import Derived.Test.YtgaboghigefgbaaGreatDoorZ3
import Derived.Deep.LoopGhost
set_option linter.all false
set_option maxRecDepth 100000
set_option maxHeartbeats 8000000
namespace Go.Proofs.YtgaboghigefgbaaGreatDoor
open Go.Proofs.Tryz
open Go.Lib (hid)
open Go.RowKit
theorem QFh(fid:Nat)(JG:∀args w,(callFunc fid args).run prog w=.ok (.enter fid args) w)(p:Qga→Bool)(v:Value)(l:List Qga)(w:World)
 (gG:∀x∈l,∀wx,Below w.heap.size w wx→Calls prog fid #[.agg #[.int .i64 x.kind,.string x.path,.string x.name,.string x.value]] wx fun e w'=>e=.returned (.bool (p x))∧Below wx.heap.size wx w')
 (hF:QFa w v l) (hl:l.length≤9223372036854775806) :
 Calls prog 92 #[v,.func (.func fid) #[] #[]] w
  fun e w'=>(∃r:Int,e=.returned (.int .i64 r)∧decide (0≤r)=l.any p)∧Below w.heap.size w w':=by
 obtain⟨a,cap,rfl,gy,gh,gj⟩:=hF;have JP:=hid gj;have K6:=hid gG;clear gj gG;go_enter func92,ntmps92;go_wp2_with fail;go_loopg [8] (l.length) (fun f x wr=>∃k:Nat,x=.int .i64 k∧k≤l.length∧l.length≤k+f∧Hid (∀i (h:i<l.length),i<k→p l[i]=false)∧Below w.heap.size w wr)
 case atStart=>exact⟨0,rfl,by omega,by omega,fun i h h2=>absurd h2 (by omega),Below.refl _ _⟩
 case round=>
  obtain⟨k,rfl,hk,hf,hN,hb⟩:=hrel;have Hy:=hb.size;by_cases Hh:k<l.length
  ·obtain⟨g,o,e1,hg,Hw⟩:=JP.o (by omega);subst e1;obtain⟨c0,c1,c2,c3⟩:=(Hw k Hh).keep hb hg;have il:g<wr.heap.size:=by omega
   have Mg:(k:Int)<(l.length:Int):=by omega
   have gA:=K6.o l[k] (List.getElem_mem Hh) wr hb;cases hy:p l[k]with
   | true=>
    rw[hy]at gA;have Mj:=hid gA;have Hp:=hid (show l.any p=true from List.any_eq_true.2 ⟨l[k],List.getElem_mem Hh,hy⟩);clear hy gA Hw;generalize l[k]=ek at *
    go_wp2_with fail;refine Calls.mono (by exact Mj.o) ?_;rintro e w' ⟨rfl,hb'⟩;go_wp2_with fail;go_ret;exact⟨⟨k,rfl,by rw[Hp.o];simp⟩,hb.trans (hb'.mono Hy)⟩
   | false=>
    rw[hy]at gA;have Mj:=hid gA;have HY:=hid hy;clear hy gA Hw;go_wp2_with fail;refine Calls.mono (by exact Mj.o) ?_;rintro e w' ⟨rfl,hb'⟩;go_wp2_with fail;go_roundg (gk-1)
    case measure=>omega
    case rel=>
     refine⟨k+1,by go_num,by omega,by omega,?_,hb.trans (hb'.mono Hy)⟩;intro i hi dt;by_cases e:i=k
     ·subst e;exact HY.o
     exact hN.o i hi (by omega)
  have Mg:¬(k:Int)<(l.length:Int):=by omega
  have Hp:=hid (show l.any p=false from by
   rw[List.any_eq_false];intro x hx;obtain⟨i,hi,e⟩:=List.getElem_of_mem hx;rw[←e,hN.o i hi (by omega)]
   decide)
  go_wp2_with fail;go_ret;exact⟨⟨-1,rfl,by rw[Hp.o];decide⟩,hb⟩
theorem Qrd(fid:Nat)(JG:∀args w,(callFunc fid args).run prog w=.ok (.enter fid args) w)(p:Qga→Bool)(v:Value)(l:List Qga)(w:World)
 (gG:∀x∈l,∀wx,Below w.heap.size w wx→Calls prog fid #[.agg #[.int .i64 x.kind,.string x.path,.string x.name,.string x.value]] wx fun e w'=>e=.returned (.bool (p x))∧Below wx.heap.size wx w')
 (hF:QFa w v l) (hl:l.length≤9223372036854775806) :
 Calls prog 45 #[v,.func (.func fid) #[] #[]] w
  fun e w'=>e=.returned (.bool (l.any p))∧Below w.heap.size w w':=by
 have dO:=hid (QFh fid JG p v l w gG hF hl);obtain⟨a,cap,rfl,gy,gh,-⟩:=hF;clear gG;generalize l.any p=q at *
 go_enter func45,ntmps45;go_wp2_with fail;refine Calls.mono (by exact dO.o) ?_;rintro e w2 ⟨⟨r,rfl,hr⟩,Hc⟩;have HB:=hid Hc;have HR:=hid hr;clear Hc hr;go_wp2_with fail;go_ret;exact⟨by rw[←HR.o];rfl,HB.o⟩
theorem Q3g(fid:Nat)(JG:∀args w,(callFunc fid args).run prog w=.ok (.enter fid args) w)(p:Qga→Bool)(cb:Nat)(v:Value)(l:List Qga)(w:World)
 (gG:∀x∈l,∀wx,Below w.heap.size w wx→Calls prog fid #[.agg #[.int .i64 x.kind,.string x.path,.string x.name,.string x.value],.pointer (some ⟨cb,0,none⟩)] wx fun e w'=>e=.returned (.bool (p x))∧Below wx.heap.size wx w')
 (hF:QFa w v l) (hl:l.length≤9223372036854775806) :
 Calls prog 92 #[v,.func (.func fid) #[] #[.pointer (some ⟨cb,0,none⟩)]] w
  fun e w'=>(∃r:Int,e=.returned (.int .i64 r)∧decide (0≤r)=l.any p)∧Below w.heap.size w w':=by
 obtain⟨a,cap,rfl,gy,gh,gj⟩:=hF;have JP:=hid gj;have K6:=hid gG;clear gj gG;go_enter func92,ntmps92;go_wp2_with fail;go_loopg [8] (l.length) (fun f x wr=>∃k:Nat,x=.int .i64 k∧k≤l.length∧l.length≤k+f∧Hid (∀i (h:i<l.length),i<k→p l[i]=false)∧Below w.heap.size w wr)
 case atStart=>exact⟨0,rfl,by omega,by omega,fun i h h2=>absurd h2 (by omega),Below.refl _ _⟩
 case round=>
  obtain⟨k,rfl,hk,hf,hN,hb⟩:=hrel;have Hy:=hb.size;by_cases Hh:k<l.length
  ·obtain⟨g,o,e1,hg,Hw⟩:=JP.o (by omega);subst e1;obtain⟨c0,c1,c2,c3⟩:=(Hw k Hh).keep hb hg;have il:g<wr.heap.size:=by omega
   have Mg:(k:Int)<(l.length:Int):=by omega
   have gA:=K6.o l[k] (List.getElem_mem Hh) wr hb;cases hy:p l[k]with
   | true=>
    rw[hy]at gA;have Mj:=hid gA;have Hp:=hid (show l.any p=true from List.any_eq_true.2 ⟨l[k],List.getElem_mem Hh,hy⟩);clear hy gA Hw;generalize l[k]=ek at *
    go_wp2_with fail;refine Calls.mono (by exact Mj.o) ?_;rintro e w' ⟨rfl,hb'⟩;go_wp2_with fail;go_ret;exact⟨⟨k,rfl,by rw[Hp.o];simp⟩,hb.trans (hb'.mono Hy)⟩
   | false=>
    rw[hy]at gA;have Mj:=hid gA;have HY:=hid hy;clear hy gA Hw;go_wp2_with fail;refine Calls.mono (by exact Mj.o) ?_;rintro e w' ⟨rfl,hb'⟩;go_wp2_with fail;go_roundg (gk-1)
    case measure=>omega
    case rel=>
     refine⟨k+1,by go_num,by omega,by omega,?_,hb.trans (hb'.mono Hy)⟩;intro i hi dt;by_cases e:i=k
     ·subst e;exact HY.o
     exact hN.o i hi (by omega)
  have Mg:¬(k:Int)<(l.length:Int):=by omega
  have Hp:=hid (show l.any p=false from by
   rw[List.any_eq_false];intro x hx;obtain⟨i,hi,e⟩:=List.getElem_of_mem hx;rw[←e,hN.o i hi (by omega)]
   decide)
  go_wp2_with fail;go_ret;exact⟨⟨-1,rfl,by rw[Hp.o];decide⟩,hb⟩
theorem Q7c(fid:Nat)(JG:∀args w,(callFunc fid args).run prog w=.ok (.enter fid args) w)(p:Qga→Bool)(cb:Nat)(v:Value)(l:List Qga)(w:World)
 (gG:∀x∈l,∀wx,Below w.heap.size w wx→Calls prog fid #[.agg #[.int .i64 x.kind,.string x.path,.string x.name,.string x.value],.pointer (some ⟨cb,0,none⟩)] wx fun e w'=>e=.returned (.bool (p x))∧Below wx.heap.size wx w')
 (hF:QFa w v l) (hl:l.length≤9223372036854775806) :
 Calls prog 45 #[v,.func (.func fid) #[] #[.pointer (some ⟨cb,0,none⟩)]] w
  fun e w'=>e=.returned (.bool (l.any p))∧Below w.heap.size w w':=by
 have dO:=hid (Q3g fid JG p cb v l w gG hF hl);obtain⟨a,cap,rfl,gy,gh,-⟩:=hF;clear gG;generalize l.any p=q at *
 go_enter func45,ntmps45;go_wp2_with fail;refine Calls.mono (by exact dO.o) ?_;rintro e w2 ⟨⟨r,rfl,hr⟩,Hc⟩;have HB:=hid Hc;have HR:=hid hr;clear Hc hr;go_wp2_with fail;go_ret;exact⟨by rw[←HR.o];rfl,HB.o⟩
def Qzu(w:World)(e:Ending)(w':World):Prop:=∃b,e=.returned (.bool b)∧Below w.heap.size w w'
theorem QNn(R:Nat→Prop)(v:Value)(T:List Qba)(w:World)(hT:Qoa R w v T) :
 Calls prog 18 #[.agg #[v]] w (Qzu w):=by
 obtain⟨a,cap,rfl,gy,gh⟩:=hT.shape;have HT:=hid hT;clear hT;go_enter func18,ntmps18;go_wp2_with fail;go_loopg [3,4] T.length (fun f x y wr=>∃(k:Nat) (n:Int),x=.int .i64 n∧y=.int .i64 k∧k≤T.length∧T.length≤k+f∧Holds wr w.heap.size #[.slice a T.length cap] 27∧Below w.heap.size w wr)
 case atStart=>exact⟨0,T.length,rfl,rfl,by omega,by omega,Holds.new w _ _,Bq⟩
 case round=>
  obtain⟨k,n,rfl,rfl,Ga,kW,hX,hb⟩:=hrel;have Hy:=hb.size;have x0:=hX.cell 0;have xl:=hX.lt;by_cases Hh:k<T.length
  ·have dC:(k:Int)<(T.length:Int):=by omega
   by_cases h9:n<900
   ·obtain⟨g,o,pa,pc,rfl,hg,c0,c1,c2,hp,p1,p2,b0,b1,b2⟩:=(HT.o.new hb).at k Hh;clear hp;generalize T[k].props.length=pl at *
    go_wp2_with fail;go_roundg (gk-1)
    case measure=>omega
    case rel=>exact⟨k+1,_,rfl,by go_num,by omega,by omega,hX,hb⟩
   have h9':900≤n:=by omega
   go_wp2_with fail;go_ret;exact⟨_,rfl,hb⟩
  have dC:¬(k:Int)<(T.length:Int):=by omega
  go_wp2_with fail;go_ret;exact⟨_,rfl,hb⟩
end Go.Proofs.YtgaboghigefgbaaGreatDoor
