/- overlay: path. -/
import Derived.Test.YtgaboghigefgbaaGreatDoorZ23
import Derived.Test.YtgaboghigefgbaaGreatDoorZ3
import Derived.Test.YtgaboghigefgbaaGreatDoorZ8
import Derived.Lib.Split
import Derived.Lib.IndexBytes
import Derived.Shelf.Strings.Split
import Derived.Shelf.Small.Wraps
set_option linter.all false
set_option maxHeartbeats 8000000
namespace Go.Proofs.YtgaboghigefgbaaGreatDoor
open Go.Lib (hid)
open Go.RowKit
theorem Q2g:∀l:List UInt8,(Lib.index l [47] = -1∧Qcc l=[l])∨∃i:Nat,Lib.index l [47]=i∧i<l.length∧Qcc l=l.take i::Qcc (l.drop (i+1))
 | []=>.inl ⟨rfl,rfl⟩
 | c::r=>by
  by_cases hc:c=47
  ·subst hc
   exact .inr ⟨0,by simp[Lib.index],by simp,by simp[Qcc]⟩
  ·have h1:([47]:List UInt8).isPrefixOf (c::r)=false:=by
    simp only[List.isPrefixOf,Bool.and_true,beq_eq_false_iff_ne]
    exact fun h=>hc h.symm
   have h2:Lib.index (c::r) [47]=if Lib.index r [47] == -1 then -1 else Lib.index r [47]+1:=by
    rw[Lib.index,h1];rfl
   rcases Q2g r with⟨a,b⟩|⟨i,a,hi,b⟩
   ·left
    refine⟨by rw[h2,a];rfl,?_⟩
    rw[Qcc,if_neg hc,b]
   ·right
    refine⟨i+1,?_,by simpa using hi,?_⟩
    ·rw[h2,a,if_neg (by simp)];simp
    ·rw[Qcc,if_neg hc,b];simp
theorem Qdn:∀(n:Nat) (l:List UInt8),l.length≤n→Lib.split l [47]=Qcc l
 | n,l,hn=>by
  unfold Lib.split
  rcases Q2g l with⟨a,b⟩|⟨i,a,hi,b⟩
  ·rw[Lib.count_miss a,b];rfl
  ·rw[Lib.count_hit (by simp) a,Nat.add_comm,Lib.splitK,if_neg (by rw[a];simp),a,b]
   cases n with
   | zero=>omega
   | succ n=>
    have ih:=Qdn n (l.drop (i+1)) (by simp;omega)
    unfold Lib.split at ih
    simp only[Int.toNat_natCast,Nat.add_zero,List.length_cons,List.length_nil,Nat.zero_add]
    rw[ih]
theorem QUp(s:ByteArray)(w:World)(hs:s.size≤maxLen) :
 Calls Tryz.prog 135 #[.string s] w fun e w'=>e = .returned (.bool (!Q0a s.data.toList))∧w=w':=by
 have hN:=Qac s w hs
 go_enter Tryz.func135,Tryz.ntmps135
 go_wp2_with fail
 refine hN.mono ?_
 rintro e w2 ⟨rfl,rfl⟩
 go_wp2_with fail
 go_ret
 exact⟨rfl,rfl⟩
theorem Qhk:∀args w,(callFunc 135 args).run Tryz.prog w = .ok (.enter 135 args) w:=enters_of Tryz.func135 (by kernel_rfl) rfl
theorem QGi(fid:Nat)(aC:∀args w,(callFunc fid args).run Tryz.prog w = .ok (.enter fid args) w)(p:ByteArray→Bool)(l:List ByteArray)(w:World)(g:Nat)(c:Nat)
 (gN:∀x∈l,∀wx,Calls Tryz.prog fid #[.string x] wx fun e w'=>e = .returned (.bool (p x))∧wx=w')
 (hF:Holds w g (l.map Value.string).toArray 9) (hl:l.length≤9223372036854775806) :
 Calls Tryz.prog 183 #[.slice (some ⟨g,0,none⟩) l.length c,.func (.func fid) #[] #[]] w
  fun e w'=>(∃r:Int,e = .returned (.int .i64 r)∧decide (0≤r)=l.any p)∧w=w':=by
 have HC:=hid (fun(i:Nat) (hi:i<l.length)=>show w.cell? ⟨g,i,none⟩=some (.string l[i])from by rw[hF.cell i];simp[hi])
 have jj:=hF.lt
 have ma:=hid gN
 clear gN hF
 go_enter Tryz.func183,Tryz.ntmps183
 go_wp2_with fail
 go_loopg [8] (l.length) (fun f x wr=>∃k:Nat,x = .int .i64 k∧k≤l.length∧l.length≤k+f∧Hid (∀i (h:i<l.length),i<k→p l[i]=false)∧w=wr)
 case atStart=>exact⟨0,rfl,by omega,by omega,fun i h h2=>absurd h2 (by omega),rfl⟩
 case round=>
  obtain⟨k,rfl,hk,hf,hN,rfl⟩:=hrel
  by_cases Hh:k<l.length
  ·have c0:=HC.out k Hh
   have MX:(k:Int)<(l.length:Int):=by omega
   have gD:=ma.out l[k] (List.getElem_mem Hh) w
   cases hy:p l[k]with
   | true=>
    rw[hy]at gD
    have Mf:=hid gD
    have Hn:=hid (show l.any p=true from List.any_eq_true.2 ⟨l[k],List.getElem_mem Hh,hy⟩)
    clear hy gD
    generalize l[k]=ek at *
    go_wp2_with fail
    refine(by exact Mf.out:Calls _ _ _ _ _).mono ?_
    rintro e w' ⟨rfl,rfl⟩
    go_wp2_with fail
    go_ret
    exact⟨⟨k,rfl,by rw[Hn.out];simp⟩,rfl⟩
   | false=>
    rw[hy]at gD
    have Mf:=hid gD
    have HY:=hid hy
    clear hy gD
    go_wp2_with fail
    refine(by exact Mf.out:Calls _ _ _ _ _).mono ?_
    rintro e w' ⟨rfl,rfl⟩
    go_wp2_with fail
    go_roundg (gk-1)
    case measure=>omega
    case rel=>
     refine⟨k+1,by go_num,by omega,by omega,?_,rfl⟩
     intro i hi bR
     by_cases e:i=k
     ·subst e;exact HY.out
     ·exact hN.out i hi (by omega)
  ·have MX:¬(k:Int)<(l.length:Int):=by omega
   have Hn:=hid (show l.any p=false from by
    rw[List.any_eq_false]
    intro x hx
    obtain⟨i,hi,e⟩:=List.getElem_of_mem hx
    rw[←e,hN.out i hi (by omega)]
    decide)
   go_wp2_with fail
   go_ret
   exact⟨⟨-1,rfl,by rw[Hn.out];decide⟩,rfl⟩
theorem QIg(fid:Nat)(aC:∀args w,(callFunc fid args).run Tryz.prog w = .ok (.enter fid args) w)(p:ByteArray→Bool)(l:List ByteArray)(w:World)(g:Nat)(c:Nat)
 (gN:∀x∈l,∀wx,Calls Tryz.prog fid #[.string x] wx fun e w'=>e = .returned (.bool (p x))∧wx=w')
 (hF:Holds w g (l.map Value.string).toArray 9) (hl:l.length≤9223372036854775806) :
 Calls Tryz.prog 133 #[.slice (some ⟨g,0,none⟩) l.length c,.func (.func fid) #[] #[]] w
  fun e w'=>e = .returned (.bool (l.any p))∧w=w':=by
 have fG:=hid (QGi fid aC p l w g c gN hF hl)
 clear gN hF
 generalize l.any p=q at *
 go_enter Tryz.func133,Tryz.ntmps133
 go_wp2_with fail
 refine(by exact fG.out:Calls _ _ _ _ _).mono ?_
 rintro e w2 ⟨⟨r,rfl,hr⟩,rfl⟩
 have HR:=hid hr
 clear hr
 go_wp2_with fail
 go_ret
 exact⟨by rw[←HR.out];rfl,rfl⟩
end Go.Proofs.YtgaboghigefgbaaGreatDoor
