/- Contracts of include: where a file is found. | Contracts of include: find, what is contained. -/
import Derived.Test.YtofhcgbihonckaaGreatZ9
import Derived.Test.YtofhcgbihonckaaGreatZ18
import Derived.Deep.LoopGhost
import Derived.Laws.EntriesVeiled
set_option linter.all false
set_option maxHeartbeats 8000000
namespace Go.Proofs.YtofhcgbihonckaaGreat
open Go.Lib (hid)
open Go.RowKit
def QZa(w:World)(v:Value)(F:List Qoa):Prop:=
 ∃(a:Option Addr) (cap:Nat),v = .slice a F.length cap∧F.length≤cap∧cap≤9223372036854775807∧
  (0<F.length→∃g o,a=some ⟨g,o,none⟩∧g<w.heap.size∧∀(i:Nat) (h:i<F.length),w.cell? ⟨g,o+i*2,none⟩=some (.string F[i].name)∧w.cell? ⟨g,o+i*2+1,none⟩=some (.string F[i].text))
theorem QZa.new{w w':World}{v:Value}{F:List Qoa}(h:QZa w v F)(k:Below w.heap.size w w'):QZa w' v F:=by
 obtain⟨a,cap,rfl,h1,h2,h3⟩:=h
 refine⟨a,cap,rfl,h1,h2,fun h0=>?_⟩
 obtain⟨g,o,rfl,hg,hc⟩:=h3 h0
 exact⟨g,o,rfl,Nat.lt_of_lt_of_le hg k.size,fun i hi=>⟨(k.cell (p:=⟨g,o+i*2,none⟩) hg).trans (hc i hi).1,(k.cell (p:=⟨g,o+i*2+1,none⟩) hg).trans (hc i hi).2⟩⟩
theorem Qwg(a b:ByteArray):(a.toList == b.toList)=decide (a=b):=by
 by_cases h:a=b
 ·subst h;simp
 ·rw[decide_eq_false h,beq_eq_false_iff_ne]
  intro e
  rw[ByteArray.toList_eq,ByteArray.toList_eq]at e
  exact h (ByteArray.ext (Array.toList_inj.1 e))
def Qrb(F:List Qoa)(s:ByteArray):Int:=match Q2b F s with
 | some i=>i
 | none => -1
theorem Qkm(n t s:ByteArray)(sb:Nat)(w:World)(hc:w.cell? ⟨sb,0,none⟩=some (.string s))(hl:sb<w.heap.size) :
 Calls Tryz.prog 111 #[.agg #[.string n,.string t],.pointer (some ⟨sb,0,none⟩)] w fun e w'=>e = .returned (.bool (decide (n=s)))∧Below w.heap.size w w':=by
 have hb:=(Below.refl w.heap.size w).alloc (Nat.le_refl _) (.cells #[.string n,.string t] 46)
 have Hn:=hid (Qwg n s)
 go_enter Tryz.func111,Tryz.ntmps111
 go_wp2_with fail
 go_ret
 exact⟨Qla Hn.out,hb⟩
theorem Qlm(n t s:ByteArray)(sb:Nat)(w:World)(hc:w.cell? ⟨sb,0,none⟩=some (.string s))(hl:sb<w.heap.size) :
 Calls Tryz.prog 70 #[.agg #[.string n,.string t],.pointer (some ⟨sb,0,none⟩)] w fun e w'=>e = .returned (.bool (decide (n=s)))∧Below w.heap.size w w':=by
 have hb:=(Below.refl w.heap.size w).alloc (Nat.le_refl _) (.cells #[.string n,.string t] 46)
 have Hn:=hid (Qwg n s)
 go_enter Tryz.func70,Tryz.ntmps70
 go_wp2_with fail
 go_ret
 exact⟨Qla Hn.out,hb⟩
theorem QAi:∀args w,(callFunc 111 args).run Tryz.prog w = .ok (.enter 111 args) w:=enters_of Tryz.func111 (by kernel_rfl) rfl
theorem QBi:∀args w,(callFunc 70 args).run Tryz.prog w = .ok (.enter 70 args) w:=enters_of Tryz.func70 (by kernel_rfl) rfl
theorem Q2d(fid:Nat)(xV:∀args w,(callFunc fid args).run Tryz.prog w = .ok (.enter fid args) w)(sb:Nat)(s:ByteArray)
 (ke:∀n t wx,wx.cell? ⟨sb,0,none⟩=some (.string s)→sb<wx.heap.size→Calls Tryz.prog fid #[.agg #[.string n,.string t],.pointer (some ⟨sb,0,none⟩)] wx fun e w'=>e = .returned (.bool (decide (n=s)))∧Below wx.heap.size wx w')
 (v:Value) (F:List Qoa) (w:World) (hF:QZa w v F) (hc:w.cell? ⟨sb,0,none⟩=some (.string s)) (KR:sb<w.heap.size) (hl:F.length≤1000) :
 Calls Tryz.prog 110 #[v,.func (.func fid) #[] #[.pointer (some ⟨sb,0,none⟩)]] w
  fun e w'=>e = .returned (.int .i64 (Qrb F s))∧Below w.heap.size w w':=by
 obtain⟨a,cap,rfl,K5,kO,Gg⟩:=hF
 have jX:=hid Gg
 have cC:=hid ke
 have HC:=hid hc
 clear Gg ke hc
 go_enter Tryz.func110,Tryz.ntmps110
 go_wp2_with fail
 go_loopg [8] (F.length) (fun f x wr=>∃k:Nat,x = .int .i64 k∧k≤F.length∧F.length≤k+f∧Hid (∀i (h:i<F.length),i<k→decide (F[i].name=s)=false)∧Below w.heap.size w wr)
 case atStart=>exact⟨0,rfl,by omega,by omega,fun i h h2=>absurd h2 (by omega),Below.refl _ _⟩
 case round=>
  obtain⟨k,rfl,hk,hf,hN,hb⟩:=hrel
  have GM:=hb.size
  by_cases Hh:k<F.length
  ·obtain⟨g,o,e1,hg,Hx⟩:=jX.out (by omega)
   subst e1
   obtain⟨n0,t0⟩:=Hx k Hh
   have c0:=(hb.cell (p:=⟨g,o+k*2,none⟩) hg).trans n0
   have c1:=(hb.cell (p:=⟨g,o+k*2+1,none⟩) hg).trans t0
   have cx:g<wr.heap.size:=by omega
   have KJ:=cC.out F[k].name F[k].text wr ((hb.cell (p:=⟨sb,0,none⟩) KR).trans HC.out) (by omega)
   cases hy:decide (F[k].name=s)with
   | true=>
    rw[hy]at KJ
    have lP:=hid KJ
    have Hg:=hid (show Qrb F s=k from by
     unfold Qrb Q2b
     have:F.findIdx? (fun f=>decide (f.name=s))=some k:=by
      rw[List.findIdx?_eq_some_iff_getElem]
      exact⟨Hh,hy,fun j hj=>by have:=hN.out j (by omega) hj;rw[this];simp⟩
     rw[this])
    clear hy KJ n0 t0 Hx
    generalize F[k]=fk at *
    go_wp2_with fail
    refine(by exact lP.out:Calls _ _ _ _ _).mono ?_
    rintro e w' ⟨rfl,hb'⟩
    go_wp2_with fail
    go_ret
    exact⟨QOb (by rw[Hg.out]),hb.trans (hb'.mono GM)⟩
   | false=>
    rw[hy]at KJ
    have lP:=hid KJ
    have HY:=hid hy
    clear hy KJ n0 t0 Hx
    go_wp2_with fail
    refine(by exact lP.out:Calls _ _ _ _ _).mono ?_
    rintro e w' ⟨rfl,hb'⟩
    go_wp2_with fail
    go_roundg (gk-1)
    case measure=>omega
    case rel=>
     refine⟨k+1,by go_num,by omega,by omega,?_,hb.trans (hb'.mono GM)⟩
     intro i hi vC
     by_cases e:i=k
     ·subst e;exact HY.out
     ·exact hN.out i hi (by omega)
  ·have Hg:=hid (show Qrb F s = -1 from by
    unfold Qrb Q2b
    have:F.findIdx? (fun f=>decide (f.name=s))=none:=by
     rw[List.findIdx?_eq_none_iff]
     intro x hx
     obtain⟨i,hi,e⟩:=List.getElem_of_mem hx
     rw[←e];exact hN.out i hi (by omega)
    rw[this])
   go_wp2_with fail
   go_ret
   exact⟨QOb (by rw[Hg.out]),hb⟩
def ldC(fv:Value)(mb:Nat)(ov rv:Value):Array Value:=#[fv,.map (some mb),ov,rv]
theorem QUe(lb mb:Nat)(fv ov rv:Value)(F:List Qoa)(s:ByteArray)(w:World)(hH:Qca w lb (ldC fv mb ov rv) 95)(hF:QZa w fv F)(hl:F.length≤1000) :
 Calls Tryz.prog 71 #[.pointer (some ⟨lb,0,none⟩),.string s] w fun e w'=>e = .returned (.int .i64 (Qrb F s))∧Below w.heap.size w w':=by
 have hb:=(Below.refl w.heap.size w).alloc (Nat.le_refl _) (.cells #[.string s] 9)
 have ko:=hH.alloc (.cells #[.string s] 9)
 have hN:=Qca.new w #[.string s] 9
 have c0:(w.alloc (.cells #[.string s] 9)).cell? ⟨lb,0,none⟩=some fv:=ko.cell 0
 have ye:=ko.lt
 have oL:=Q2d _ QAi w.heap.size s (fun n t wx h1 h2=>Qkm n t s w.heap.size wx h1 h2) fv F _ (hF.new hb) (hN.cell 0) hN.lt hl
 obtain⟨a,cap,rfl,K5,kO,Gg⟩:=hF
 have iS:=hid oL
 have HB:=hid hb
 clear oL Gg hb hN
 go_enter Tryz.func71,Tryz.ntmps71
 go_wp2_with fail
 refine(by exact iS.out:Calls _ _ _ _ _).mono ?_
 rintro e w2 ⟨rfl,Ho⟩
 have HF:=hid (HB.out.trans (Ho.mono HB.out.size))
 clear Ho
 go_wp2_with fail
 go_ret
 exact⟨rfl,HF.out⟩
theorem QZa.pre{w:World}{a:Option Addr}{cap:Nat}{F:List Qoa}(h:QZa w (.slice a F.length cap) F)(i:Nat)(hi:i≤F.length):QZa w (.slice a i cap) (F.take i):=by
 obtain⟨a',cap',e,h1,h2,h3⟩:=h
 cases e
 have hl:(F.take i).length=i:=by rw[List.length_take];omega
 refine⟨a,cap,by rw[hl],by omega,h2,fun h0=>?_⟩
 obtain⟨g,o,rfl,hg,hc⟩:=h3 (by omega)
 exact⟨g,o,rfl,hg,fun j hj=>by rw[List.getElem_take];exact hc j (by omega)⟩
theorem QRe(sb:Nat)(s:ByteArray)(v:Value)(F:List Qoa)(w:World)(hF:QZa w v F)(hc:w.cell? ⟨sb,0,none⟩=some (.string s))(KR:sb<w.heap.size)(hl:F.length≤1000) :
 Calls Tryz.prog 69 #[v,.func (.func 70) #[] #[.pointer (some ⟨sb,0,none⟩)]] w
  fun e w'=>e = .returned (.bool (decide (0≤Qrb F s)))∧Below w.heap.size w w':=by
 have oL:=Q2d _ QBi sb s (fun n t wx h1 h2=>Qlm n t s sb wx h1 h2) v F w hF hc KR hl
 obtain⟨a,cap,rfl,K5,kO,Gg⟩:=hF
 have iS:=hid oL
 clear oL Gg
 generalize Qrb F s=fi at *
 go_enter Tryz.func69,Tryz.ntmps69
 go_wp2_with fail
 refine(by exact iS.out:Calls _ _ _ _ _).mono ?_
 rintro e w2 ⟨rfl,Ho⟩
 have HF:=hid Ho
 clear Ho
 go_wp2_with fail
 go_ret
 exact⟨rfl,HF.out⟩
def QSl(w:World)(v:Value)(l:List Nat):Prop:=
 ∃(a:Option Addr) (cap:Nat),v = .slice a l.length cap∧l.length≤cap∧(0<l.length→∃g o,a=some ⟨g,o,none⟩∧∀(i:Nat) (h:i<l.length),w.cell? ⟨g,o+i,none⟩=some (.int .i64 (l[i]:Int)))
theorem QGd(v:Value)(l:List Nat)(k:Nat)(w:World)(hv:QSl w v l)(hl:l.length≤1000) :
 Calls Tryz.prog 112 #[v,.int .i64 (k:Int)] w fun e w'=>e = .returned (.bool (l.contains k))∧w=w':=by
 obtain⟨a,cap,rfl,K5,Gg⟩:=hv
 have jX:=hid Gg
 clear Gg
 have jF:Calls Tryz.prog 131 #[.slice a l.length cap,.int .i64 (k:Int)] w fun e w'=>(∃r:Int,e = .returned (.int .i64 r)∧decide (0≤r)=l.contains k)∧w=w':=by
  go_enter Tryz.func131,Tryz.ntmps131
  go_wp2_with fail
  go_loopg [8] (l.length) (fun f x wr=>∃j:Nat,x = .int .i64 j∧j≤l.length∧l.length≤j+f∧Hid (∀i (h:i<l.length),i<j→l[i]≠k)∧w=wr)
  case atStart=>exact⟨0,rfl,by omega,by omega,fun i h h2=>absurd h2 (by omega),rfl⟩
  case round=>
   obtain⟨j,rfl,qB,Gr,hN,rfl⟩:=hrel
   by_cases Hh:j<l.length
   ·obtain⟨g,o,e1,Hx⟩:=jX.out (by omega)
    subst e1
    have c0:=Hx j Hh
    have ia:(j:Int)<(l.length:Int):=by omega
    by_cases he:l[j]=k
    ·have d1:((k:Int) == (l[j]:Int))=true:=by rw[beq_iff_eq,he]
     have Hg:=hid (show decide ((0:Int)≤(j:Int))=l.contains k from by
      rw[decide_eq_true (by omega)]
      symm
      rw[List.contains_iff_mem]
      exact he ▸ List.getElem_mem Hh)
     clear he Hx
     generalize l[j]=lj at *
     go_wp2_with fail
     go_ret
     exact⟨⟨j,rfl,Hg.out⟩,rfl⟩
    ·have d1:((k:Int) == (l[j]:Int))=false:=by rw[beq_eq_false_iff_ne];omega
     have HE:=hid he
     clear he Hx
     go_wp2_with fail
     go_roundg (gk-1)
     case measure=>omega
     case rel=>
      refine⟨j+1,by go_num,by omega,by omega,?_,rfl⟩
      intro i hi GV
      by_cases e:i=j
      ·subst e;exact HE.out
      ·exact hN.out i hi (by omega)
   ·have Hg:=hid (show decide ((0:Int)≤-1)=l.contains k from by
     rw[decide_eq_false (by omega)]
     symm
     rw[Bool.eq_false_iff]
     intro h
     obtain⟨i,hi,e⟩:=List.getElem_of_mem (List.contains_iff_mem.1 h)
     exact hN.out i hi (by omega) e)
    go_wp2_with fail
    go_ret
    exact⟨⟨-1,rfl,Hg.out⟩,rfl⟩
 have HI:=hid jF
 clear jF
 go_enter Tryz.func112,Tryz.ntmps112
 go_wp2_with fail
 refine(by exact HI.out:Calls _ _ _ _ _).mono ?_
 rintro e w2 ⟨⟨r,rfl,hr⟩,rfl⟩
 have HR:=hid hr
 clear hr
 go_wp2_with fail
 go_ret
 exact⟨Qla HR.out,rfl⟩
end Go.Proofs.YtofhcgbihonckaaGreat
