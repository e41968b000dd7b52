/- slices.IndexFunc, slices.ContainsFunc at edits (printed by govr.py). -/
import Derived.Test.YtgaboghigefgbaaGreatDoorZ13
import Derived.Deep.LoopGhost
set_option linter.all false
set_option maxHeartbeats 8000000
namespace Go.Proofs.YtgaboghigefgbaaGreatDoor
open Go.Lib (hid)
open Go.RowKit
theorem QLh(fid:Nat)(aC:∀args w,(callFunc fid args).run Tryz.prog w = .ok (.enter fid args) w)(p:Qja→Bool)(v:Value)(l:List Qja)(w:World)
 (gN:∀x∈l,∀wx,Below w.heap.size w wx→Calls Tryz.prog fid #[.agg #[.int .i64 x.kind,.string x.path,.string x.name,.string x.value]] wx fun e w'=>e = .returned (.bool (p x))∧Below wx.heap.size wx w')
 (hF:Qjb w v l) (hl:l.length≤9223372036854775806) :
 Calls Tryz.prog 92 #[v,.func (.func fid) #[] #[]] w
  fun e w'=>(∃r:Int,e = .returned (.int .i64 r)∧decide (0≤r)=l.any p)∧Below w.heap.size w w':=by
 obtain⟨a,cap,rfl,gM,gB,Gp⟩:=hF
 have aN:=hid Gp
 have ma:=hid gN
 clear Gp gN
 go_enter Tryz.func92,Tryz.ntmps92
 go_wp2_with fail
 go_loopg [8] (l.length) (fun f x wr=>∃k:Nat,x = .int .i64 k∧k≤l.length∧l.length≤k+f∧Hid (∀i (h:i<l.length),i<k→p l[i]=false)∧Below w.heap.size w wr)
 case atStart=>exact⟨0,rfl,by omega,by omega,fun i h h2=>absurd h2 (by omega),Below.refl _ _⟩
 case round=>
  obtain⟨k,rfl,hk,hf,hN,hb⟩:=hrel
  have H3:=hb.size
  by_cases Hh:k<l.length
  ·obtain⟨g,o,e1,hg,H7⟩:=aN.out (by omega)
   subst e1
   obtain⟨c0,c1,c2,c3⟩:=(H7 k Hh).keep hb hg
   have nE:g<wr.heap.size:=by omega
   have MX:(k:Int)<(l.length:Int):=by omega
   have gD:=ma.out l[k] (List.getElem_mem Hh) wr hb
   cases hy:p l[k]with
   | true=>
    rw[hy]at gD
    have Mf:=hid gD
    have Hn:=hid (show l.any p=true from List.any_eq_true.2 ⟨l[k],List.getElem_mem Hh,hy⟩)
    clear hy gD H7
    generalize l[k]=ek at *
    go_wp2_with fail
    refine(by exact Mf.out:Calls _ _ _ _ _).mono ?_
    rintro e w' ⟨rfl,hb'⟩
    go_wp2_with fail
    go_ret
    exact⟨⟨k,rfl,by rw[Hn.out];simp⟩,hb.trans (hb'.mono H3)⟩
   | false=>
    rw[hy]at gD
    have Mf:=hid gD
    have HY:=hid hy
    clear hy gD H7
    go_wp2_with fail
    refine(by exact Mf.out:Calls _ _ _ _ _).mono ?_
    rintro e w' ⟨rfl,hb'⟩
    go_wp2_with fail
    go_roundg (gk-1)
    case measure=>omega
    case rel=>
     refine⟨k+1,by go_num,by omega,by omega,?_,hb.trans (hb'.mono H3)⟩
     intro i hi bR
     by_cases e:i=k
     ·subst e;exact HY.out
     ·exact hN.out i hi (by omega)
  ·have MX:¬(k:Int)<(l.length:Int):=by omega
   have Hn:=hid (show l.any p=false from by
    rw[List.any_eq_false]
    intro x hx
    obtain⟨i,hi,e⟩:=List.getElem_of_mem hx
    rw[←e,hN.out i hi (by omega)]
    decide)
   go_wp2_with fail
   go_ret
   exact⟨⟨-1,rfl,by rw[Hn.out];decide⟩,hb⟩
theorem QBd(fid:Nat)(aC:∀args w,(callFunc fid args).run Tryz.prog w = .ok (.enter fid args) w)(p:Qja→Bool)(v:Value)(l:List Qja)(w:World)
 (gN:∀x∈l,∀wx,Below w.heap.size w wx→Calls Tryz.prog fid #[.agg #[.int .i64 x.kind,.string x.path,.string x.name,.string x.value]] wx fun e w'=>e = .returned (.bool (p x))∧Below wx.heap.size wx w')
 (hF:Qjb w v l) (hl:l.length≤9223372036854775806) :
 Calls Tryz.prog 45 #[v,.func (.func fid) #[] #[]] w
  fun e w'=>e = .returned (.bool (l.any p))∧Below w.heap.size w w':=by
 have fG:=hid (QLh fid aC p v l w gN hF hl)
 obtain⟨a,cap,rfl,gM,gB,-⟩:=hF
 clear gN
 generalize l.any p=q at *
 go_enter Tryz.func45,Tryz.ntmps45
 go_wp2_with fail
 refine(by exact fG.out:Calls _ _ _ _ _).mono ?_
 rintro e w2 ⟨⟨r,rfl,hr⟩,Hc⟩
 have HB:=hid Hc
 have HR:=hid hr
 clear Hc hr
 go_wp2_with fail
 go_ret
 exact⟨by rw[←HR.out];rfl,HB.out⟩
theorem Q5g(fid:Nat)(aC:∀args w,(callFunc fid args).run Tryz.prog w = .ok (.enter fid args) w)(p:Qja→Bool)(cb:Nat)(v:Value)(l:List Qja)(w:World)
 (gN:∀x∈l,∀wx,Below w.heap.size w wx→Calls Tryz.prog fid #[.agg #[.int .i64 x.kind,.string x.path,.string x.name,.string x.value],.pointer (some ⟨cb,0,none⟩)] wx fun e w'=>e = .returned (.bool (p x))∧Below wx.heap.size wx w')
 (hF:Qjb w v l) (hl:l.length≤9223372036854775806) :
 Calls Tryz.prog 92 #[v,.func (.func fid) #[] #[.pointer (some ⟨cb,0,none⟩)]] w
  fun e w'=>(∃r:Int,e = .returned (.int .i64 r)∧decide (0≤r)=l.any p)∧Below w.heap.size w w':=by
 obtain⟨a,cap,rfl,gM,gB,Gp⟩:=hF
 have aN:=hid Gp
 have ma:=hid gN
 clear Gp gN
 go_enter Tryz.func92,Tryz.ntmps92
 go_wp2_with fail
 go_loopg [8] (l.length) (fun f x wr=>∃k:Nat,x = .int .i64 k∧k≤l.length∧l.length≤k+f∧Hid (∀i (h:i<l.length),i<k→p l[i]=false)∧Below w.heap.size w wr)
 case atStart=>exact⟨0,rfl,by omega,by omega,fun i h h2=>absurd h2 (by omega),Below.refl _ _⟩
 case round=>
  obtain⟨k,rfl,hk,hf,hN,hb⟩:=hrel
  have H3:=hb.size
  by_cases Hh:k<l.length
  ·obtain⟨g,o,e1,hg,H7⟩:=aN.out (by omega)
   subst e1
   obtain⟨c0,c1,c2,c3⟩:=(H7 k Hh).keep hb hg
   have nE:g<wr.heap.size:=by omega
   have MX:(k:Int)<(l.length:Int):=by omega
   have gD:=ma.out l[k] (List.getElem_mem Hh) wr hb
   cases hy:p l[k]with
   | true=>
    rw[hy]at gD
    have Mf:=hid gD
    have Hn:=hid (show l.any p=true from List.any_eq_true.2 ⟨l[k],List.getElem_mem Hh,hy⟩)
    clear hy gD H7
    generalize l[k]=ek at *
    go_wp2_with fail
    refine(by exact Mf.out:Calls _ _ _ _ _).mono ?_
    rintro e w' ⟨rfl,hb'⟩
    go_wp2_with fail
    go_ret
    exact⟨⟨k,rfl,by rw[Hn.out];simp⟩,hb.trans (hb'.mono H3)⟩
   | false=>
    rw[hy]at gD
    have Mf:=hid gD
    have HY:=hid hy
    clear hy gD H7
    go_wp2_with fail
    refine(by exact Mf.out:Calls _ _ _ _ _).mono ?_
    rintro e w' ⟨rfl,hb'⟩
    go_wp2_with fail
    go_roundg (gk-1)
    case measure=>omega
    case rel=>
     refine⟨k+1,by go_num,by omega,by omega,?_,hb.trans (hb'.mono H3)⟩
     intro i hi bR
     by_cases e:i=k
     ·subst e;exact HY.out
     ·exact hN.out i hi (by omega)
  ·have MX:¬(k:Int)<(l.length:Int):=by omega
   have Hn:=hid (show l.any p=false from by
    rw[List.any_eq_false]
    intro x hx
    obtain⟨i,hi,e⟩:=List.getElem_of_mem hx
    rw[←e,hN.out i hi (by omega)]
    decide)
   go_wp2_with fail
   go_ret
   exact⟨⟨-1,rfl,by rw[Hn.out];decide⟩,hb⟩
theorem Qfd(fid:Nat)(aC:∀args w,(callFunc fid args).run Tryz.prog w = .ok (.enter fid args) w)(p:Qja→Bool)(cb:Nat)(v:Value)(l:List Qja)(w:World)
 (gN:∀x∈l,∀wx,Below w.heap.size w wx→Calls Tryz.prog fid #[.agg #[.int .i64 x.kind,.string x.path,.string x.name,.string x.value],.pointer (some ⟨cb,0,none⟩)] wx fun e w'=>e = .returned (.bool (p x))∧Below wx.heap.size wx w')
 (hF:Qjb w v l) (hl:l.length≤9223372036854775806) :
 Calls Tryz.prog 45 #[v,.func (.func fid) #[] #[.pointer (some ⟨cb,0,none⟩)]] w
  fun e w'=>e = .returned (.bool (l.any p))∧Below w.heap.size w w':=by
 have fG:=hid (Q5g fid aC p cb v l w gN hF hl)
 obtain⟨a,cap,rfl,gM,gB,-⟩:=hF
 clear gN
 generalize l.any p=q at *
 go_enter Tryz.func45,Tryz.ntmps45
 go_wp2_with fail
 refine(by exact fG.out:Calls _ _ _ _ _).mono ?_
 rintro e w2 ⟨⟨r,rfl,hr⟩,Hc⟩
 have HB:=hid Hc
 have HR:=hid hr
 clear Hc hr
 go_wp2_with fail
 go_ret
 exact⟨by rw[←HR.out];rfl,HB.out⟩
end Go.Proofs.YtgaboghigefgbaaGreatDoor
