/- Lemmas on the way to the law; no conditions. -/
import Derived.Test.YtgaboghigefgbaaGreatDoorZ17
import Derived.Test.YtgaboghigefgbaaGreatDoorZ19
set_option linter.all false
set_option maxRecDepth 100000
set_option maxHeartbeats 8000000
namespace Go.Proofs.YtgaboghigefgbaaGreatDoor
open Go.Proofs.Tryz
open Go.Lib (hid)
open Go.RowKit
theorem QYi{ps qs:List Qga}{i:Nat}(hl:ps.length=qs.length)(hi:ps.length≤i)(h:∀j (h1:j<ps.length) (h2:j<qs.length),j<i→ps[j]=qs[j]):ps=qs:=
 List.ext_getElem hl fun j h1 h2=>h j h1 h2 (by omega)
theorem QMl(v u:Value)(ps qs:List Qga)(w:World)(h1:QFa w v ps)(h2:QFa w u qs) :
 Calls prog 57 #[v,u] w fun e w'=>e=.returned (.bool (decide (ps=qs)))∧Below w.heap.size w w':=by
 obtain⟨a,cap,rfl,gy,gh⟩:=h1.slice;obtain⟨a',cap',rfl,cZ,c8⟩:=h2.slice;have H1:=hid h1;have H2:=hid h2;clear h1 h2;by_cases hl:ps.length=qs.length
 ·have hl':((ps.length:Int) != (qs.length:Int))=false:=by rw[hl];simp
  have HL:=hid hl;clear hl;go_enter func57,ntmps57;go_wp2_with fail;go_loopg [13] ps.length (fun f x wr=>∃i:Nat,x=.int .i64 i∧i≤ps.length∧ps.length≤i+f∧Hid (∀j (h1:j<ps.length) (h2:j<qs.length),j<i→ps[j]=qs[j])∧Hid (Below w.heap.size w wr))
  case atStart=>exact⟨0,rfl,by omega,by omega,hid (fun j _ _ h=>by omega),hid (Below.refl _ _)⟩
  case round=>
   obtain⟨i,rfl,Kb,Jm,HA,HB⟩:=hrel;by_cases Hh:i<ps.length
   ·have GI:i<qs.length:=by rw[←HL.o];exact Hh
    have k1:(i:Int)<ps.length:=by omega
    have k2:(i:Int)<qs.length:=by omega
    obtain⟨g,o,Jh,hg,Hw⟩:=Q7a (H1.o.new HB.o) (by omega);obtain⟨g',o',mG,hg',ls⟩:=Q7a (H2.o.new HB.o) (by omega);subst Jh;subst mG;obtain⟨c0,c1,c2,c3⟩:=Hw i Hh;obtain⟨d0,d1,d2,d3⟩:=ls i GI;have mq:=hid (fun(h:ps[i]≠qs[i])=>(show ¬ps=qs from fun e=>h (by simp only[e])));have Mv:=hid (fun(h:ps[i]=qs[i])=>(show ∀j (h1:j<ps.length) (h2:j<qs.length),j<i+1→ps[j]=qs[j]from fun j j1 j2 hj=>by
     by_cases e:j=i
     ·subst e;exact h
     exact HA.o j j1 j2 (by omega)))
    have iN:ps[i]=qs[i]↔ps[i].kind=qs[i].kind∧ps[i].path=qs[i].path∧ps[i].name=qs[i].name∧ps[i].value=qs[i].value:=by
     cases hx:ps[i];cases hy:qs[i];simp only[Qga.mk.injEq]
    have KS:=hid iN;clear Hw ls iN;generalize ps[i]=x at *
    generalize qs[i]=y at *
    obtain⟨a0,a1,a2,a3⟩:=x;obtain⟨b0,b1,b2,b3⟩:=y;simp only at c0 c1 c2 c3 d0 d1 d2 d3;replace KS:=hid (show((⟨a0,a1,a2,a3⟩:Qga)=⟨b0,b1,b2,b3⟩↔a0=b0∧a1=b1∧a2=b2∧a3=b3)from KS.o);cases e0:(a0==b0)with
    | false=>
     have HG:=hid (mq.o (fun h=>by have h2:=(KS.o.1 h).1;subst h2;simp at e0));clear Mv mq KS;go_wp2_with fail;go_quiet(fail);go_wp2_with fail;go_ret;exact⟨by rw[decide_eq_false HG.o];rfl,⟨HB.o.os,HB.o.tape,HB.o.output,HB.o.size,HB.o.block⟩⟩
    | true=>
     cases e1:(a1.toList==b1.toList)with
     | false=>
      have HG:=hid (mq.o (fun h=>by have h2:=(KS.o.1 h).2.1;rw[h2]at e1;simp at e1));clear Mv mq KS;go_wp2_with fail;go_quiet(fail);go_wp2_with fail;go_ret;exact⟨by rw[decide_eq_false HG.o];rfl,⟨HB.o.os,HB.o.tape,HB.o.output,HB.o.size,HB.o.block⟩⟩
     | true=>
      cases e2:(a2.toList==b2.toList)with
      | false=>
       have HG:=hid (mq.o (fun h=>by have h2:=(KS.o.1 h).2.2.1;rw[h2]at e2;simp at e2));clear Mv mq KS;go_wp2_with fail;go_quiet(fail);go_wp2_with fail;go_ret;exact⟨by rw[decide_eq_false HG.o];rfl,⟨HB.o.os,HB.o.tape,HB.o.output,HB.o.size,HB.o.block⟩⟩
      | true=>
       cases e3:(a3.toList==b3.toList)with
       | false=>
        have HG:=hid (mq.o (fun h=>by have h2:=(KS.o.1 h).2.2.2;rw[h2]at e3;simp at e3));clear Mv mq KS;go_wp2_with fail;go_quiet(fail);go_wp2_with fail;go_ret;exact⟨by rw[decide_eq_false HG.o];rfl,⟨HB.o.os,HB.o.tape,HB.o.output,HB.o.size,HB.o.block⟩⟩
       | true=>
        have HG:=hid (Mv.o (KS.o.2 ⟨by simpa using e0,QVh e1,QVh e2,QVh e3⟩));clear Mv mq KS;go_wp2_with fail;go_quiet(fail);go_wp2_with fail;go_roundg (gk-1)
        case measure=>omega
        case rel=>exact⟨i+1,by go_num,by omega,by omega,HG,hid ⟨HB.o.os,HB.o.tape,HB.o.output,HB.o.size,HB.o.block⟩⟩
   have hG:=hid (QYi HL.o (show ps.length≤i by omega) HA.o);go_wp2_with fail;go_ret;exact⟨by rw[decide_eq_true hG.o];rfl,HB.o⟩
 have hl':((ps.length:Int) != (qs.length:Int))=true:=by simp;omega
 have HG:=hid (show ¬ps=qs from fun e=>hl (by rw[e]));clear hl;go_enter func57,ntmps57;go_wp2_with fail;go_ret;exact⟨by rw[decide_eq_false HG.o];rfl,Below.refl _ _⟩
theorem Qan(m nm:ByteArray)(v u:Value)(ps qs:List Qga)(w:World)(h1:QFa w v ps)(h2:QFa w u qs) :
 Calls prog 22 #[.agg #[.string m,v],.agg #[.string nm,u]] w fun e w'=>e=.returned (.bool (decide (m=nm∧ps=qs)))∧Below w.heap.size w w':=by
 obtain⟨a,cap,rfl,gy,gh⟩:=h1.slice;obtain⟨a',cap',rfl,cZ,c8⟩:=h2.slice;have He:Below w.heap.size w ((w.alloc (.cells #[.string m,.slice a ps.length cap] 31)).alloc (.cells #[.string nm,.slice a' qs.length cap'] 31)):=(Bq).alloc (by simp) _;have Mv:=hid (QMl (.slice a ps.length cap) (.slice a' qs.length cap') ps qs _ (h1.new He) (h2.new He));have HB:=hid He;clear h1 h2 He;cases hn:(m.toList==nm.toList)with
 | false=>
  have HG:=hid (show ¬(m=nm∧ps=qs)from fun e=>by have h2:=e.1;rw[h2]at hn;simp at hn);clear Mv;go_enter func22,ntmps22;go_wp2_with fail;go_ret;exact⟨by rw[decide_eq_false HG.o];rfl,HB.o⟩
 | true=>
  have HG:=hid (show decide (m=nm∧ps=qs)=decide (ps=qs)from by rw[decide_eq_decide];simp[QVh hn]);go_enter func22,ntmps22;go_wp2_with fail;refine Calls.mono (by exact Mv.o) ?_;rintro e w1 ⟨rfl,Hb⟩;go_wp2_with fail;go_ret;exact⟨by rw[HG.o];rfl,HB.o.trans (Hb.mono HB.o.size)⟩
theorem Qdn(m nm:ByteArray)(v u:Value)(ps qs:List Qga)(w:World)(h1:QFa w v ps)(h2:QFa w u qs) :
 Calls prog 23 #[.agg #[.string m,v],.agg #[.string nm,u]] w fun e w'=>e=.returned (.bool (decide (m=nm∧ps=qs)))∧Below w.heap.size w w':=by
 obtain⟨a,cap,rfl,gy,gh⟩:=h1.slice;obtain⟨a',cap',rfl,cZ,c8⟩:=h2.slice;have He:Below w.heap.size w ((w.alloc (.cells #[.string m,.slice a ps.length cap] 31)).alloc (.cells #[.string nm,.slice a' qs.length cap'] 31)):=(Bq).alloc (by simp) _;have MB:=hid ((Holds.new w #[.string m,.slice a ps.length cap] 31).alloc (.cells #[.string nm,.slice a' qs.length cap'] 31));have zA:=hid (Holds.newAt (w:=w.alloc (.cells #[.string m,.slice a ps.length cap] 31)) (B:=w.heap.size+1) (by simp) #[.string nm,.slice a' qs.length cap'] 31);have gK:=hid He;have H1:=hid h1;have H2:=hid h2;clear h1 h2 He;cases hn:(m.toList==nm.toList)with
 | false=>
  have HG:=hid (show ¬(m=nm∧ps=qs)from fun e=>by have h2:=e.1;rw[h2]at hn;simp at hn);go_enter func23,ntmps23;go_wp2_with fail;go_ret;exact⟨by rw[decide_eq_false HG.o];rfl,gK.o⟩
 | true=>
  have HD:=hid (show decide (m=nm∧ps=qs)=decide (ps=qs)from by rw[decide_eq_decide];simp[QVh hn]);by_cases hl:ps.length=qs.length
  ·have hl':((ps.length:Int) != (qs.length:Int))=false:=by rw[hl];simp
   have HL:=hid hl;clear hl;go_enter func23,ntmps23;go_wp2_with fail;go_loopg [23] ps.length (fun f x wr=>∃i:Nat,x=.int .i64 i∧i≤ps.length∧ps.length≤i+f∧Hid (∀j (h1:j<ps.length) (h2:j<qs.length),j<i→ps[j]=qs[j])∧Hid (Below w.heap.size w wr)∧Hid (Holds wr w.heap.size #[.string m,.slice a ps.length cap] 31)∧Hid (Holds wr (w.heap.size+1) #[.string nm,.slice a' qs.length cap'] 31))
   case atStart=>exact⟨0,rfl,by omega,by omega,hid (fun j _ _ h=>by omega),gK,MB,zA⟩
   case round=>
    obtain⟨i,rfl,Kb,Jm,HA,HB,HX,HY⟩:=hrel;by_cases Hh:i<ps.length
    ·have GI:i<qs.length:=by rw[←HL.o];exact Hh
     have k1:(i:Int)<ps.length:=by omega
     have k2:(i:Int)<qs.length:=by omega
     obtain⟨g,o,Jh,hg,Hw⟩:=Q7a (H1.o.new HB.o) (by omega);obtain⟨g',o',mG,hg',ls⟩:=Q7a (H2.o.new HB.o) (by omega);subst Jh;subst mG;obtain⟨c0,c1,c2,c3⟩:=Hw i Hh;obtain⟨d0,d1,d2,d3⟩:=ls i GI;have mq:=hid (fun(h:ps[i]≠qs[i])=>(show ¬ps=qs from fun e=>h (by simp only[e])));have Mv:=hid (fun(h:ps[i]=qs[i])=>(show ∀j (h1:j<ps.length) (h2:j<qs.length),j<i+1→ps[j]=qs[j]from fun j j1 j2 hj=>by
      by_cases e:j=i
      ·subst e;exact h
      exact HA.o j j1 j2 (by omega)))
     have iN:ps[i]=qs[i]↔ps[i].kind=qs[i].kind∧ps[i].path=qs[i].path∧ps[i].name=qs[i].name∧ps[i].value=qs[i].value:=by
      cases hx:ps[i];cases hy:qs[i];simp only[Qga.mk.injEq]
     have KS:=hid iN;clear Hw ls iN;generalize ps[i]=x at *
     generalize qs[i]=y at *
     obtain⟨a0,a1,a2,a3⟩:=x;obtain⟨b0,b1,b2,b3⟩:=y;simp only at c0 c1 c2 c3 d0 d1 d2 d3;replace KS:=hid (show((⟨a0,a1,a2,a3⟩:Qga)=⟨b0,b1,b2,b3⟩↔a0=b0∧a1=b1∧a2=b2∧a3=b3)from KS.o);have x1:=HX.o.cell 1;have xl:=HX.o.lt;have y1:=HY.o.cell 1;have yl:=HY.o.lt;cases e0:(a0==b0)with
     | false=>
      have HG:=hid (mq.o (fun h=>by have h2:=(KS.o.1 h).1;subst h2;simp at e0));clear Mv mq KS;go_wp2_with fail;go_quiet(fail);go_wp2_with fail;go_ret;exact⟨by rw[HD.o,decide_eq_false HG.o];rfl,⟨HB.o.os,HB.o.tape,HB.o.output,HB.o.size,HB.o.block⟩⟩
     | true=>
      cases e1:(a1.toList==b1.toList)with
      | false=>
       have HG:=hid (mq.o (fun h=>by have h2:=(KS.o.1 h).2.1;rw[h2]at e1;simp at e1));clear Mv mq KS;go_wp2_with fail;go_quiet(fail);go_wp2_with fail;go_ret;exact⟨by rw[HD.o,decide_eq_false HG.o];rfl,⟨HB.o.os,HB.o.tape,HB.o.output,HB.o.size,HB.o.block⟩⟩
      | true=>
       cases e2:(a2.toList==b2.toList)with
       | false=>
        have HG:=hid (mq.o (fun h=>by have h2:=(KS.o.1 h).2.2.1;rw[h2]at e2;simp at e2));clear Mv mq KS;go_wp2_with fail;go_quiet(fail);go_wp2_with fail;go_ret;exact⟨by rw[HD.o,decide_eq_false HG.o];rfl,⟨HB.o.os,HB.o.tape,HB.o.output,HB.o.size,HB.o.block⟩⟩
       | true=>
        cases e3:(a3.toList==b3.toList)with
        | false=>
         have HG:=hid (mq.o (fun h=>by have h2:=(KS.o.1 h).2.2.2;rw[h2]at e3;simp at e3));clear Mv mq KS;go_wp2_with fail;go_quiet(fail);go_wp2_with fail;go_ret;exact⟨by rw[HD.o,decide_eq_false HG.o];rfl,⟨HB.o.os,HB.o.tape,HB.o.output,HB.o.size,HB.o.block⟩⟩
        | true=>
         have HG:=hid (Mv.o (KS.o.2 ⟨by simpa using e0,QVh e1,QVh e2,QVh e3⟩));clear Mv mq KS;go_wp2_with fail;go_quiet(fail);go_wp2_with fail;go_roundg (gk-1)
         case measure=>omega
         case rel=>exact⟨i+1,by go_num,by omega,by omega,HG,hid ⟨HB.o.os,HB.o.tape,HB.o.output,HB.o.size,HB.o.block⟩,hid (HX.o.drewN _),hid (HY.o.drewN _)⟩
    have hG:=hid (QYi HL.o (show ps.length≤i by omega) HA.o);go_wp2_with fail;go_ret;exact⟨by rw[HD.o,decide_eq_true hG.o];rfl,HB.o⟩
  have hl':((ps.length:Int) != (qs.length:Int))=true:=by simp;omega
  have HG:=hid (show ¬ps=qs from fun e=>hl (by rw[e]));clear hl;go_enter func23,ntmps23;go_wp2_with fail;go_ret;exact⟨by rw[HD.o,decide_eq_false HG.o];rfl,gK.o⟩
end Go.Proofs.YtgaboghigefgbaaGreatDoor
