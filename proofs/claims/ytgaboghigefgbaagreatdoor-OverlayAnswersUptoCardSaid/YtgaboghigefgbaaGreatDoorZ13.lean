/- Lemmas on the way to the law; no conditions. -/
import Derived.Test.YtgaboghigefgbaaGreatDoorZ12
import Derived.Test.YtgaboghigefgbaaGreatDoorZ10
import Derived.Lib.Split
import Derived.Lib.IndexBytes
import Derived.Shelf.Strings.Split
import Derived.Shelf.Small.Wraps
set_option linter.all false
set_option maxHeartbeats 8000000
namespace Go.Proofs.YtgaboghigefgbaaGreatDoor
open Go.Proofs.Tryz
open Go.Lib (hid)
open Go.RowKit
theorem QZg:∀l:List UInt8,(Lib.index l [47] = -1∧Qvb l=[l])∨∃i:Nat,Lib.index l [47]=i∧i<l.length∧Qvb l=l.take i::Qvb (l.drop (i+1))
 | []=>.inl ⟨rfl,rfl⟩
 | c::r=>by
  by_cases hc:c=47
  ·subst hc;exact .inr ⟨0,by simp[Lib.index],by simp,by simp[Qvb]⟩
  have h1:([47]:List UInt8).isPrefixOf (c::r)=false:=by
   simp only[List.isPrefixOf,Bool.and_true,beq_eq_false_iff_ne];exact fun h=>hc h.symm
  have h2:Lib.index (c::r) [47]=if Lib.index r [47] == -1 then -1 else Lib.index r [47]+1:=by
   rw[Lib.index,h1];rfl
  rcases QZg r with⟨a,b⟩|⟨i,a,hi,b⟩
  ·left;refine⟨by rw[h2,a];rfl,?_⟩;rw[Qvb,if_neg hc,b]
  right;refine⟨i+1,?_,by simpa using hi,?_⟩
  ·rw[h2,a,if_neg (by simp)];simp
  rw[Qvb,if_neg hc,b];simp
theorem Qqn:∀(n:Nat) (l:List UInt8),l.length≤n→Lib.split l [47]=Qvb l
 | n,l,hn=>by
  unfold Lib.split;rcases QZg l with⟨a,b⟩|⟨i,a,hi,b⟩
  ·rw[Lib.count_miss a,b];rfl
  rw[Lib.count_hit (by simp) a,Nat.add_comm,Lib.splitK,if_neg (by rw[a];simp),a,b];cases n with
  | zero=>omega
  | succ n=>
   have ih:=Qqn n (l.drop (i+1)) (by simp;omega);unfold Lib.split at ih;simp only[Int.toNat_natCast,Nat.add_zero,List.length_cons,List.length_nil,Nat.zero_add];rw[ih]
theorem Qfq(s:ByteArray)(w:World)(hs:s.size≤maxLen) :
 Calls prog 135 #[.string s] w fun e w'=>e=.returned (.bool (!QTa s.data.toList))∧w=w':=by
 have hN:=Qac s w hs;go_enter func135,ntmps135;go_wp2_with fail;refine hN.mono ?_;rintro e w2 ⟨rfl,rfl⟩;go_wp2_with fail;go_ret;exact⟨rfl,rfl⟩
theorem Quk:∀args w,(callFunc 135 args).run prog w=.ok (.enter 135 args) w:=enters_of func135 (by kernel_rfl) rfl
theorem QDi(fid:Nat)(JG:∀args w,(callFunc fid args).run prog w=.ok (.enter fid args) w)(p:ByteArray→Bool)(l:List ByteArray)(w:World)(g:Nat)(c:Nat)
 (gG:∀x∈l,∀wx,Calls prog fid #[.string x] wx fun e w'=>e=.returned (.bool (p x))∧wx=w')
 (hF:Holds w g (l.map Value.string).toArray 9) (hl:l.length≤9223372036854775806) :
 Calls prog 183 #[.slice (some ⟨g,0,none⟩) l.length c,.func (.func fid) #[] #[]] w
  fun e w'=>(∃r:Int,e=.returned (.int .i64 r)∧decide (0≤r)=l.any p)∧w=w':=by
 have HC:=hid (fun(i:Nat) (hi:i<l.length)=>show w.cell? ⟨g,i,none⟩=some (.string l[i])from by rw[hF.cell i];simp[hi]);have GG:=hF.lt;have K6:=hid gG;clear gG hF;go_enter func183,ntmps183;go_wp2_with fail;go_loopg [8] (l.length) (fun f x wr=>∃k:Nat,x=.int .i64 k∧k≤l.length∧l.length≤k+f∧Hid (∀i (h:i<l.length),i<k→p l[i]=false)∧w=wr)
 case atStart=>exact⟨0,rfl,by omega,by omega,fun i h h2=>absurd h2 (by omega),rfl⟩
 case round=>
  obtain⟨k,rfl,hk,hf,hN,rfl⟩:=hrel;by_cases Hh:k<l.length
  ·have c0:=HC.o k Hh;have Mg:(k:Int)<(l.length:Int):=by omega
   have gA:=K6.o l[k] (List.getElem_mem Hh) w;cases hy:p l[k]with
   | true=>
    rw[hy]at gA;have Mj:=hid gA;have Hp:=hid (show l.any p=true from List.any_eq_true.2 ⟨l[k],List.getElem_mem Hh,hy⟩);clear hy gA;generalize l[k]=ek at *
    go_wp2_with fail;refine Calls.mono (by exact Mj.o) ?_;rintro e w' ⟨rfl,rfl⟩;go_wp2_with fail;go_ret;exact⟨⟨k,rfl,by rw[Hp.o];simp⟩,rfl⟩
   | false=>
    rw[hy]at gA;have Mj:=hid gA;have HY:=hid hy;clear hy gA;go_wp2_with fail;refine Calls.mono (by exact Mj.o) ?_;rintro e w' ⟨rfl,rfl⟩;go_wp2_with fail;go_roundg (gk-1)
    case measure=>omega
    case rel=>
     refine⟨k+1,by go_num,by omega,by omega,?_,rfl⟩;intro i hi dt;by_cases e:i=k
     ·subst e;exact HY.o
     exact hN.o i hi (by omega)
  have Mg:¬(k:Int)<(l.length:Int):=by omega
  have Hp:=hid (show l.any p=false from by
   rw[List.any_eq_false];intro x hx;obtain⟨i,hi,e⟩:=List.getElem_of_mem hx;rw[←e,hN.o i hi (by omega)]
   decide)
  go_wp2_with fail;go_ret;exact⟨⟨-1,rfl,by rw[Hp.o];decide⟩,rfl⟩
theorem QBg(fid:Nat)(JG:∀args w,(callFunc fid args).run prog w=.ok (.enter fid args) w)(p:ByteArray→Bool)(l:List ByteArray)(w:World)(g:Nat)(c:Nat)
 (gG:∀x∈l,∀wx,Calls prog fid #[.string x] wx fun e w'=>e=.returned (.bool (p x))∧wx=w')
 (hF:Holds w g (l.map Value.string).toArray 9) (hl:l.length≤9223372036854775806) :
 Calls prog 133 #[.slice (some ⟨g,0,none⟩) l.length c,.func (.func fid) #[] #[]] w
  fun e w'=>e=.returned (.bool (l.any p))∧w=w':=by
 have dO:=hid (QDi fid JG p l w g c gG hF hl);clear gG hF;generalize l.any p=q at *
 go_enter func133,ntmps133;go_wp2_with fail;refine Calls.mono (by exact dO.o) ?_;rintro e w2 ⟨⟨r,rfl,hr⟩,rfl⟩;have HR:=hid hr;clear hr;go_wp2_with fail;go_ret;exact⟨by rw[←HR.o];rfl,rfl⟩
end Go.Proofs.YtgaboghigefgbaaGreatDoor
