/- Contracts of include: where a file is found. | Contracts of include: find, what is contained. -/
import Derived.Test.YtofhcgbihonckaaGreatY13
import Derived.Test.YtofhcgbihonckaaGreatY18
import Derived.Deep.LoopGhost
import Derived.Laws.EntriesVeiled
set_option linter.all false
set_option maxHeartbeats 8000000
namespace Go.Proofs.YtofhcgbihonckaaGreat
open Go.Lib (hid)
open Go.RowKit
def QKb(w:World)(v:Value)(F:List QFa):Prop:=
 ∃(a:Option Addr) (cap:Nat),v = .slice a F.length cap∧F.length≤cap∧cap≤9223372036854775807∧
  (0<F.length→∃g o,a=some ⟨g,o,none⟩∧g<w.heap.size∧∀(i:Nat) (h:i<F.length),w.cell? ⟨g,o+i*2,none⟩=some (.string F[i].name)∧w.cell? ⟨g,o+i*2+1,none⟩=some (.string F[i].text))
theorem QKb.new{w w':World}{v:Value}{F:List QFa}(h:QKb w v F)(k:Below w.heap.size w w'):QKb w' v F:=by
 obtain⟨a,cap,rfl,h1,h2,h3⟩:=h
 refine⟨a,cap,rfl,h1,h2,fun h0=>?_⟩
 obtain⟨g,o,rfl,hg,hc⟩:=h3 h0
 exact⟨g,o,rfl,Nat.lt_of_lt_of_le hg k.size,fun i hi=>⟨(k.cell (p:=⟨g,o+i*2,none⟩) hg).trans (hc i hi).1,(k.cell (p:=⟨g,o+i*2+1,none⟩) hg).trans (hc i hi).2⟩⟩
theorem Qxl(a b:ByteArray):(a.toList == b.toList)=decide (a=b):=by
 by_cases h:a=b
 ·subst h;simp
 ·rw[decide_eq_false h,beq_eq_false_iff_ne]
  intro e
  rw[ByteArray.toList_eq,ByteArray.toList_eq]at e
  exact h (ByteArray.ext (Array.toList_inj.1 e))
def QJc(F:List QFa)(s:ByteArray):Int:=match QYb F s with
 | some i=>i
 | none => -1
theorem Qkl(n t s:ByteArray)(sb:Nat)(w:World)(hc:w.cell? ⟨sb,0,none⟩=some (.string s))(hl:sb<w.heap.size) :
 Calls Tryz.prog 111 #[.agg #[.string n,.string t],.pointer (some ⟨sb,0,none⟩)] w fun e w'=>e = .returned (.bool (decide (n=s)))∧Below w.heap.size w w':=by
 have hb:=(Below.refl w.heap.size w).alloc (Nat.le_refl _) (.cells #[.string n,.string t] 46)
 have Hq:=hid (Qxl n s)
 go_enter Tryz.func111,Tryz.ntmps111
 go_wp2_with fail
 go_ret
 exact⟨Qka Hq.out,hb⟩
theorem Qll(n t s:ByteArray)(sb:Nat)(w:World)(hc:w.cell? ⟨sb,0,none⟩=some (.string s))(hl:sb<w.heap.size) :
 Calls Tryz.prog 70 #[.agg #[.string n,.string t],.pointer (some ⟨sb,0,none⟩)] w fun e w'=>e = .returned (.bool (decide (n=s)))∧Below w.heap.size w w':=by
 have hb:=(Below.refl w.heap.size w).alloc (Nat.le_refl _) (.cells #[.string n,.string t] 46)
 have Hq:=hid (Qxl n s)
 go_enter Tryz.func70,Tryz.ntmps70
 go_wp2_with fail
 go_ret
 exact⟨Qka Hq.out,hb⟩
theorem Q1h:∀args w,(callFunc 111 args).run Tryz.prog w = .ok (.enter 111 args) w:=enters_of Tryz.func111 (by kernel_rfl) rfl
theorem Q2h:∀args w,(callFunc 70 args).run Tryz.prog w = .ok (.enter 70 args) w:=enters_of Tryz.func70 (by kernel_rfl) rfl
theorem QCd(fid:Nat)(uh:∀args w,(callFunc fid args).run Tryz.prog w = .ok (.enter fid args) w)(sb:Nat)(s:ByteArray)
 (kh:∀n t wx,wx.cell? ⟨sb,0,none⟩=some (.string s)→sb<wx.heap.size→Calls Tryz.prog fid #[.agg #[.string n,.string t],.pointer (some ⟨sb,0,none⟩)] wx fun e w'=>e = .returned (.bool (decide (n=s)))∧Below wx.heap.size wx w')
 (v:Value) (F:List QFa) (w:World) (hF:QKb w v F) (hc:w.cell? ⟨sb,0,none⟩=some (.string s)) (mh:sb<w.heap.size) (hl:F.length≤1000) :
 Calls Tryz.prog 110 #[v,.func (.func fid) #[] #[.pointer (some ⟨sb,0,none⟩)]] w
  fun e w'=>e = .returned (.int .i64 (QJc F s))∧Below w.heap.size w w':=by
 obtain⟨a,cap,rfl,mw,Kc,GY⟩:=hF
 have Jy:=hid GY
 have be:=hid kh
 have HC:=hid hc
 clear GY kh hc
 go_enter Tryz.func110,Tryz.ntmps110
 go_wp2_with fail
 go_loopg [8] (F.length) (fun f x wr=>∃k:Nat,x = .int .i64 k∧k≤F.length∧F.length≤k+f∧Hid (∀i (h:i<F.length),i<k→decide (F[i].name=s)=false)∧Below w.heap.size w wr)
 case atStart=>exact⟨0,rfl,by omega,by omega,fun i h h2=>absurd h2 (by omega),Below.refl _ _⟩
 case round=>
  obtain⟨k,rfl,hk,hf,hN,hb⟩:=hrel
  have kc:=hb.size
  by_cases Hj:k<F.length
  ·obtain⟨g,o,e1,hg,gO⟩:=Jy.out (by omega)
   subst e1
   obtain⟨n0,t0⟩:=gO k Hj
   have c0:=(hb.cell (p:=⟨g,o+k*2,none⟩) hg).trans n0
   have c1:=(hb.cell (p:=⟨g,o+k*2+1,none⟩) hg).trans t0
   have cx:g<wr.heap.size:=by omega
   have Kp:=be.out F[k].name F[k].text wr ((hb.cell (p:=⟨sb,0,none⟩) mh).trans HC.out) (by omega)
   cases hy:decide (F[k].name=s)with
   | true=>
    rw[hy]at Kp
    have fU:=hid Kp
    have Hh:=hid (show QJc F s=k from by
     unfold QJc QYb
     have:F.findIdx? (fun f=>decide (f.name=s))=some k:=by
      rw[List.findIdx?_eq_some_iff_getElem]
      exact⟨Hj,hy,fun j hj=>by have:=hN.out j (by omega) hj;rw[this];simp⟩
     rw[this])
    clear hy Kp n0 t0 gO
    generalize F[k]=fk at *
    go_wp2_with fail
    refine(by exact fU.out:Calls _ _ _ _ _).mono ?_
    rintro e w' ⟨rfl,hb'⟩
    go_wp2_with fail
    go_ret
    exact⟨QDb (by rw[Hh.out]),hb.trans (hb'.mono kc)⟩
   | false=>
    rw[hy]at Kp
    have fU:=hid Kp
    have HY:=hid hy
    clear hy Kp n0 t0 gO
    go_wp2_with fail
    refine(by exact fU.out:Calls _ _ _ _ _).mono ?_
    rintro e w' ⟨rfl,hb'⟩
    go_wp2_with fail
    go_roundg (gk-1)
    case measure=>omega
    case rel=>
     refine⟨k+1,by go_num,by omega,by omega,?_,hb.trans (hb'.mono kc)⟩
     intro i hi pT
     by_cases e:i=k
     ·subst e;exact HY.out
     ·exact hN.out i hi (by omega)
  ·have Hh:=hid (show QJc F s = -1 from by
    unfold QJc QYb
    have:F.findIdx? (fun f=>decide (f.name=s))=none:=by
     rw[List.findIdx?_eq_none_iff]
     intro x hx
     obtain⟨i,hi,e⟩:=List.getElem_of_mem hx
     rw[←e];exact hN.out i hi (by omega)
    rw[this])
   go_wp2_with fail
   go_ret
   exact⟨QDb (by rw[Hh.out]),hb⟩
def ldC(fv:Value)(mb:Nat)(ov rv:Value):Array Value:=#[fv,.map (some mb),ov,rv]
theorem Qse(lb mb:Nat)(fv ov rv:Value)(F:List QFa)(s:ByteArray)(w:World)(hH:Qca w lb (ldC fv mb ov rv) 95)(hF:QKb w fv F)(hl:F.length≤1000) :
 Calls Tryz.prog 71 #[.pointer (some ⟨lb,0,none⟩),.string s] w fun e w'=>e = .returned (.int .i64 (QJc F s))∧Below w.heap.size w w':=by
 have hb:=(Below.refl w.heap.size w).alloc (Nat.le_refl _) (.cells #[.string s] 9)
 have G1:=hH.alloc (.cells #[.string s] 9)
 have hN:=Qca.new w #[.string s] 9
 have c0:(w.alloc (.cells #[.string s] 9)).cell? ⟨lb,0,none⟩=some fv:=G1.cell 0
 have ut:=G1.lt
 have lr:=QCd _ Q1h w.heap.size s (fun n t wx h1 h2=>Qkl n t s w.heap.size wx h1 h2) fv F _ (hF.new hb) (hN.cell 0) hN.lt hl
 obtain⟨a,cap,rfl,mw,Kc,GY⟩:=hF
 have eZ:=hid lr
 have HB:=hid hb
 clear lr GY hb hN
 go_enter Tryz.func71,Tryz.ntmps71
 go_wp2_with fail
 refine(by exact eZ.out:Calls _ _ _ _ _).mono ?_
 rintro e w2 ⟨rfl,Hn⟩
 have HF:=hid (HB.out.trans (Hn.mono HB.out.size))
 clear Hn
 go_wp2_with fail
 go_ret
 exact⟨rfl,HF.out⟩
theorem QKb.pre{w:World}{a:Option Addr}{cap:Nat}{F:List QFa}(h:QKb w (.slice a F.length cap) F)(i:Nat)(hi:i≤F.length):QKb w (.slice a i cap) (F.take i):=by
 obtain⟨a',cap',e,h1,h2,h3⟩:=h
 cases e
 have hl:(F.take i).length=i:=by rw[List.length_take];omega
 refine⟨a,cap,by rw[hl],by omega,h2,fun h0=>?_⟩
 obtain⟨g,o,rfl,hg,hc⟩:=h3 (by omega)
 exact⟨g,o,rfl,hg,fun j hj=>by rw[List.getElem_take];exact hc j (by omega)⟩
theorem Qqe(sb:Nat)(s:ByteArray)(v:Value)(F:List QFa)(w:World)(hF:QKb w v F)(hc:w.cell? ⟨sb,0,none⟩=some (.string s))(mh:sb<w.heap.size)(hl:F.length≤1000) :
 Calls Tryz.prog 69 #[v,.func (.func 70) #[] #[.pointer (some ⟨sb,0,none⟩)]] w
  fun e w'=>e = .returned (.bool (decide (0≤QJc F s)))∧Below w.heap.size w w':=by
 have lr:=QCd _ Q2h sb s (fun n t wx h1 h2=>Qll n t s sb wx h1 h2) v F w hF hc mh hl
 obtain⟨a,cap,rfl,mw,Kc,GY⟩:=hF
 have eZ:=hid lr
 clear lr GY
 generalize QJc F s=fi at *
 go_enter Tryz.func69,Tryz.ntmps69
 go_wp2_with fail
 refine(by exact eZ.out:Calls _ _ _ _ _).mono ?_
 rintro e w2 ⟨rfl,Hn⟩
 have HF:=hid Hn
 clear Hn
 go_wp2_with fail
 go_ret
 exact⟨rfl,HF.out⟩
def QNn(w:World)(v:Value)(l:List Nat):Prop:=
 ∃(a:Option Addr) (cap:Nat),v = .slice a l.length cap∧l.length≤cap∧(0<l.length→∃g o,a=some ⟨g,o,none⟩∧∀(i:Nat) (h:i<l.length),w.cell? ⟨g,o+i,none⟩=some (.int .i64 (l[i]:Int)))
theorem Qjd(v:Value)(l:List Nat)(k:Nat)(w:World)(hv:QNn w v l)(hl:l.length≤1000) :
 Calls Tryz.prog 112 #[v,.int .i64 (k:Int)] w fun e w'=>e = .returned (.bool (l.contains k))∧w=w':=by
 obtain⟨a,cap,rfl,mw,GY⟩:=hv
 have Jy:=hid GY
 clear GY
 have M1:Calls Tryz.prog 131 #[.slice a l.length cap,.int .i64 (k:Int)] w fun e w'=>(∃r:Int,e = .returned (.int .i64 r)∧decide (0≤r)=l.contains k)∧w=w':=by
  go_enter Tryz.func131,Tryz.ntmps131
  go_wp2_with fail
  go_loopg [8] (l.length) (fun f x wr=>∃j:Nat,x = .int .i64 j∧j≤l.length∧l.length≤j+f∧Hid (∀i (h:i<l.length),i<j→l[i]≠k)∧w=wr)
  case atStart=>exact⟨0,rfl,by omega,by omega,fun i h h2=>absurd h2 (by omega),rfl⟩
  case round=>
   obtain⟨j,rfl,pV,Gf,hN,rfl⟩:=hrel
   by_cases Hj:j<l.length
   ·obtain⟨g,o,e1,gO⟩:=Jy.out (by omega)
    subst e1
    have c0:=gO j Hj
    have hjr:(j:Int)<(l.length:Int):=by omega
    by_cases he:l[j]=k
    ·have d1:((k:Int) == (l[j]:Int))=true:=by rw[beq_iff_eq,he]
     have Hh:=hid (show decide ((0:Int)≤(j:Int))=l.contains k from by
      rw[decide_eq_true (by omega)]
      symm
      rw[List.contains_iff_mem]
      exact he ▸ List.getElem_mem Hj)
     clear he gO
     generalize l[j]=lj at *
     go_wp2_with fail
     go_ret
     exact⟨⟨j,rfl,Hh.out⟩,rfl⟩
    ·have d1:((k:Int) == (l[j]:Int))=false:=by rw[beq_eq_false_iff_ne];omega
     have HE:=hid he
     clear he gO
     go_wp2_with fail
     go_roundg (gk-1)
     case measure=>omega
     case rel=>
      refine⟨j+1,by go_num,by omega,by omega,?_,rfl⟩
      intro i hi GH
      by_cases e:i=j
      ·subst e;exact HE.out
      ·exact hN.out i hi (by omega)
   ·have Hh:=hid (show decide ((0:Int)≤-1)=l.contains k from by
     rw[decide_eq_false (by omega)]
     symm
     rw[Bool.eq_false_iff]
     intro h
     obtain⟨i,hi,e⟩:=List.getElem_of_mem (List.contains_iff_mem.1 h)
     exact hN.out i hi (by omega) e)
    go_wp2_with fail
    go_ret
    exact⟨⟨-1,rfl,Hh.out⟩,rfl⟩
 have HI:=hid M1
 clear M1
 go_enter Tryz.func112,Tryz.ntmps112
 go_wp2_with fail
 refine(by exact HI.out:Calls _ _ _ _ _).mono ?_
 rintro e w2 ⟨⟨r,rfl,hr⟩,rfl⟩
 have HR:=hid hr
 clear hr
 go_wp2_with fail
 go_ret
 exact⟨Qka HR.out,rfl⟩
end Go.Proofs.YtofhcgbihonckaaGreat
