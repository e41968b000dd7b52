/- Definitions in memory, to read (wherever they lie). -/
import Derived.Test.YtofhcgbihonckaaGreatY20
import Derived.Deep.AppendSrc
import Derived.Deep.LoopGhost
import Derived.Deep.RegionWith
set_option linter.all false
set_option maxHeartbeats 8000000
namespace Go.Proofs.YtofhcgbihonckaaGreat
open Go.Lib (hid)
open Go.RowKit
def Qed(w:World)(v:Value)(cs:List Qzb):Prop:=
 ∃(a:Option Addr) (cap:Nat),v = .slice a cs.length cap∧(0<cs.length→∃g o,a=some ⟨g,o,none⟩∧g<w.heap.size∧∀(i:Nat) (h:i<cs.length),w.cell? ⟨g,o+i*2,none⟩=some (.int .i64 cs[i].value)∧w.cell? ⟨g,o+i*2+1,none⟩=some (.string cs[i].label))
def Qfd(w:World)(v:Value)(ps:List QRa):Prop:=
 ∃(a:Option Addr) (cap:Nat),v = .slice a ps.length cap∧(0<ps.length→∃g o,a=some ⟨g,o,none⟩∧g<w.heap.size∧∀(i:Nat) (h:i<ps.length),∃cv,w.cell? ⟨g,o+i*3,none⟩=some (.int .i64 ps[i].kind)∧w.cell? ⟨g,o+i*3+1,none⟩=some cv∧w.cell? ⟨g,o+i*3+2,none⟩=some (.string ps[i].text)∧Qed w cv ps[i].cells)
def Qxc(w:World)(v:Value)(l:List FdT):Prop:=
 ∃(a:Option Addr) (cap:Nat),v = .slice a l.length cap∧(0<l.length→∃g o,a=some ⟨g,o,none⟩∧g<w.heap.size∧∀(i:Nat) (h:i<l.length),∃pv,w.cell? ⟨g,o+i*7,none⟩=some (.int .i64 l[i].2.kind)∧w.cell? ⟨g,o+i*7+1,none⟩=some (.string l[i].2.label)∧w.cell? ⟨g,o+i*7+2,none⟩=some (.string l[i].2.name)∧w.cell? ⟨g,o+i*7+3,none⟩=some pv∧
  w.cell? ⟨g,o+i*7+4,none⟩=some (.int .i64 l[i].1)∧w.cell? ⟨g,o+i*7+5,none⟩=some (.int .i64 l[i].2.line)∧w.cell? ⟨g,o+i*7+6,none⟩=some (.int .i64 l[i].2.col)∧Qfd w pv l[i].2.parts)
section
variable{w w':World}{v:Value}
theorem Qed.new{cs:List Qzb}(h:Qed w v cs)(k:Below w.heap.size w w'):Qed w' v cs:=by
 obtain⟨a,cap,rfl,h2⟩:=h
 refine⟨a,cap,rfl,fun h0=>?_⟩
 obtain⟨g,o,rfl,hg,hc⟩:=h2 h0
 exact⟨g,o,rfl,Nat.lt_of_lt_of_le hg k.size,fun i hi=>⟨(k.cell (p:=⟨g,o+i*2,none⟩) hg).trans (hc i hi).1,(k.cell (p:=⟨g,o+i*2+1,none⟩) hg).trans (hc i hi).2⟩⟩
theorem Qfd.new{ps:List QRa}(h:Qfd w v ps)(k:Below w.heap.size w w'):Qfd w' v ps:=by
 obtain⟨a,cap,rfl,h2⟩:=h
 refine⟨a,cap,rfl,fun h0=>?_⟩
 obtain⟨g,o,rfl,hg,hc⟩:=h2 h0
 refine⟨g,o,rfl,Nat.lt_of_lt_of_le hg k.size,fun i hi=>?_⟩
 obtain⟨cv,c0,c1,c2,c3⟩:=hc i hi
 exact⟨cv,(k.cell (p:=⟨g,o+i*3,none⟩) hg).trans c0,(k.cell (p:=⟨g,o+i*3+1,none⟩) hg).trans c1,(k.cell (p:=⟨g,o+i*3+2,none⟩) hg).trans c2,c3.new k⟩
theorem Qxc.new{l:List FdT}(h:Qxc w v l)(k:Below w.heap.size w w'):Qxc w' v l:=by
 obtain⟨a,cap,rfl,h2⟩:=h
 refine⟨a,cap,rfl,fun h0=>?_⟩
 obtain⟨g,o,rfl,hg,hc⟩:=h2 h0
 refine⟨g,o,rfl,Nat.lt_of_lt_of_le hg k.size,fun i hi=>?_⟩
 obtain⟨pv,c0,c1,c2,c3,c4,c5,c6,c7⟩:=hc i hi
 exact⟨pv,(k.cell (p:=⟨g,o+i*7,none⟩) hg).trans c0,(k.cell (p:=⟨g,o+i*7+1,none⟩) hg).trans c1,(k.cell (p:=⟨g,o+i*7+2,none⟩) hg).trans c2,(k.cell (p:=⟨g,o+i*7+3,none⟩) hg).trans c3,(k.cell (p:=⟨g,o+i*7+4,none⟩) hg).trans c4,(k.cell (p:=⟨g,o+i*7+5,none⟩) hg).trans c5,(k.cell (p:=⟨g,o+i*7+6,none⟩) hg).trans c6,c7.new k⟩
theorem Qed.slice{cs:List Qzb}(h:Qed w v cs):∃a c,v = .slice a cs.length c:=by obtain⟨a,c,rfl,_⟩:=h;exact⟨a,c,rfl⟩
theorem Qfd.slice{ps:List QRa}(h:Qfd w v ps):∃a c,v = .slice a ps.length c:=by obtain⟨a,c,rfl,_⟩:=h;exact⟨a,c,rfl⟩
theorem Qxc.slice{l:List FdT}(h:Qxc w v l):∃a c,v = .slice a l.length c:=by obtain⟨a,c,rfl,_⟩:=h;exact⟨a,c,rfl⟩
theorem Qea.in{base:Nat}{cs:List Qzb}(h:Qea w base v cs):Qed w v cs:=by
 obtain⟨a,c,rfl⟩:=h.slice
 refine⟨a,c,rfl,fun h0=>?_⟩
 obtain⟨g,cap,e,hg,hc⟩:=QFm h h0
 cases e
 exact⟨g,0,rfl,hg,fun i hi=>by rw[Nat.zero_add];exact hc i hi⟩
theorem Qia.in{base:Nat}{ps:List QRa}(h:Qia w base v ps):Qfd w v ps:=by
 obtain⟨a,c,rfl⟩:=h.slice
 refine⟨a,c,rfl,fun h0=>?_⟩
 obtain⟨g,cap,e,hg,hc⟩:=Q9m h h0
 cases e
 refine⟨g,0,rfl,hg,fun i hi=>?_⟩
 obtain⟨cv,c0,c1,c2,c3⟩:=hc i hi
 rw[Nat.zero_add]
 exact⟨cv,c0,c1,c2,c3.in⟩
theorem Qsa.in{base:Nat}{l:List FdT}(h:Qsa w base v l):Qxc w v l:=by
 obtain⟨a,c,rfl⟩:=h.slice
 refine⟨a,c,rfl,fun h0=>?_⟩
 obtain⟨g,cap,pv,e,hg,_⟩:=h.at 0 h0
 cases e
 refine⟨g,0,rfl,hg,fun i hi=>?_⟩
 obtain⟨g',cap',pv',e,_,_,c0,c1,c2,c3,c4,c5,c6,c7⟩:=h.at i hi
 cases e
 rw[Nat.zero_add]
 exact⟨pv',c0,c1,c2,c3,c4,c5,c6,c7.in⟩
end
theorem QSn{a b:ByteArray}(h:(a.toList == b.toList)=false):a≠b:=fun e=>by rw[e]at h;simp at h
theorem QRn{a b:ByteArray}(h:(a.toList == b.toList)=true):a=b:=by
 rw[beq_iff_eq,ByteArray.toList_eq,ByteArray.toList_eq]at h
 exact ByteArray.ext (Array.toList_inj.1 h)
def Qjp(ps qs:List Qzb)(X Y:Nat)(c1 c2:Array Value)(W:World)(f:Nat)(x:Value)(w:World):Prop:=
 ∃i:Nat,x = .int .i64 i∧i≤ps.length∧ps.length≤i+f∧Hid (∀j (h1:j<ps.length) (h2:j<qs.length),j<i→ps[j]=qs[j])∧Qca w X c1 75∧Qca w Y c2 75∧Below W.heap.size W w
set_option maxRecDepth 100000 in
theorem Q5f(p q:QRa)(v u:Value)(w:World)(h1:Qed w v p.cells)(h2:Qed w u q.cells)(Ks:p.cells.length≤9223372036854775807) :
 Calls Tryz.prog 35 #[.agg #[.int .i64 p.kind,v,.string p.text],.agg #[.int .i64 q.kind,u,.string q.text]] w fun e w'=>∃b,e = .returned (.bool b)∧(b=true↔p=q)∧Below w.heap.size w w':=by
 obtain⟨pk,ps,pt⟩:=p
 obtain⟨qk,qs,qt⟩:=q
 simp only at h1 h2 Ks ⊢
 obtain⟨a,cap,rfl⟩:=h1.slice
 obtain⟨a',cap',rfl⟩:=h2.slice
 have H1:=hid h1;have H2:=hid h2;clear h1 h2
 have hX:=(Qca.new w #[.int .i64 pk,.slice a ps.length cap,.string pt] 75).alloc (.cells #[.int .i64 qk,.slice a' qs.length cap',.string qt] 75)
 have hY:=Qca.newAt (w:=w.alloc (.cells #[.int .i64 pk,.slice a ps.length cap,.string pt] 75)) (B:=w.heap.size+1) (by simp) #[.int .i64 qk,.slice a' qs.length cap',.string qt] 75
 have gJ:Below w.heap.size w ((w.alloc (.cells #[.int .i64 pk,.slice a ps.length cap,.string pt] 75)).alloc (.cells #[.int .i64 qk,.slice a' qs.length cap',.string qt] 75)):=((Below.refl _ _).alloc (Nat.le_refl _) _).alloc (by simp) _
 by_cases hpq:pk=qk
 ·have qi:(pk != qk)=false:=by simpa using hpq
  have fh:=hid hpq
  clear hpq
  cases Mg:(pt.toList == qt.toList)with
  | false=>
   have Hq:=hid (QSn Mg)
   go_enter Tryz.func35,Tryz.ntmps35
   go_wp2_with fail
   go_ret
   exact⟨false,rfl,by simp[Hq.out],gJ⟩
  | true=>
   have Jp:=hid (QRn Mg)
   by_cases hl:ps.length=qs.length
   ·have hl':((ps.length:Int) != (qs.length:Int))=false:=by rw[hl];simp
    have HL:=hid hl
    clear hl
    go_enter Tryz.func35,Tryz.ntmps35
    go_wp2_with fail
    go_loopg [30] ps.length (fun f x wr=>Qjp ps qs w.heap.size (w.heap.size+1) #[.int .i64 pk,.slice a ps.length cap,.string pt] #[.int .i64 qk,.slice a' qs.length cap',.string qt] w f x wr)
    case atStart=>exact⟨0,rfl,by omega,by omega,hid (fun j _ _ h=>by omega),hX,hY,gJ⟩
    case round=>
     clear hX hY gJ
     obtain⟨i,rfl,GV,kU,Hg,hX,hY,hb⟩:=hrel
     by_cases Hj:i<ps.length
     ·have ki:i<qs.length:=by rw[←HL.out];exact Hj
      have k1:(i:Int)<ps.length:=by omega
      have k2:(i:Int)<qs.length:=by omega
      have x2:=hX.cell 1
      have y2:=hY.cell 1
      obtain⟨_,_,e1,g1⟩:=H1.out.new hb
      cases e1
      obtain⟨g,o,rfl,hg,hc⟩:=g1 (by omega)
      obtain⟨c0,c1⟩:=hc i Hj
      obtain⟨_,_,e2,g2⟩:=H2.out.new hb
      cases e2
      obtain⟨g',o',rfl,hg',hd⟩:=g2 (by omega)
      obtain⟨d0,d1⟩:=hd i ki
      have HB:=hid hb
      have HX:=hid hX
      have HY:=hid hY
      have Jx:=Hg
      clear hb hX hY Hg hc hd g1 g2
      by_cases Jc:ps[i].value=qs[i].value
      ·have e1:(ps[i].value == qs[i].value)=true:=by rw[Jc];simp
       cases e2:(ps[i].label.toList == qs[i].label.toList)with
       | true=>
        have rU:ps[i]=qs[i]:=by
         have h3:=QRn e2
         cases hx:ps[i];cases hy:qs[i]
         rw[hx,hy]at Jc h3
         simp only at Jc h3
         rw[Jc,h3]
        have mq:=hid rU
        clear rU Jc
        generalize ps[i].value=a1 at *
        generalize ps[i].label=a2 at *
        generalize qs[i].value=b1 at *
        generalize qs[i].label=b2 at *
        go_wp2_with fail
        go_quiet (fail)
        go_wp2_with fail
        go_roundg (gk-1)
        case measure=>omega
        case rel=>
         refine⟨i+1,by go_num,by omega,by omega,hid (fun j j1 j2 h=>?_),HX.out,HY.out,⟨HB.out.os,HB.out.tape,HB.out.output,HB.out.size,HB.out.block⟩⟩
         by_cases e:j=i
         ·subst e;exact mq.out
         ·exact Jx.out j j1 j2 (by omega)
       | false=>
        have Gx:=hid (show ps≠qs from fun e=>QSn e2 (by subst e;rfl))
        clear Jc
        generalize ps[i].value=a1 at *
        generalize ps[i].label=a2 at *
        generalize qs[i].value=b1 at *
        generalize qs[i].label=b2 at *
        go_wp2_with fail
        go_quiet (fail)
        go_wp2_with fail
        go_ret
        exact⟨false,rfl,by simp[Gx.out],⟨HB.out.os,HB.out.tape,HB.out.output,HB.out.size,HB.out.block⟩⟩
      ·have e1:(ps[i].value == qs[i].value)=false:=by rw[beq_eq_false_iff_ne];exact Jc
       have Gx:=hid (show ps≠qs from fun e=>Jc (by subst e;rfl))
       clear Jc
       generalize ps[i].value=a1 at *
       generalize ps[i].label=a2 at *
       generalize qs[i].value=b1 at *
       generalize qs[i].label=b2 at *
       go_wp2_with fail
       go_quiet (fail)
       go_wp2_with fail
       go_ret
       exact⟨false,rfl,by simp[Gx.out],⟨HB.out.os,HB.out.tape,HB.out.output,HB.out.size,HB.out.block⟩⟩
     ·obtain rfl:i=ps.length:=by omega
      have Gx:=hid (show ps=qs from List.ext_getElem HL.out (fun j j1 j2=>Hg.out j j1 j2 j1))
      have HB:=hid hb
      clear hb hX hY Hg
      go_wp2_with fail
      go_ret
      exact⟨true,rfl,by simp[fh.out,Gx.out,Jp.out],HB.out⟩
   ·have hl':((ps.length:Int) != (qs.length:Int))=true:=by rw[bne_iff_ne];omega
    have Gx:=hid (show ps≠qs from fun e=>hl (by rw[e]))
    clear hl
    go_enter Tryz.func35,Tryz.ntmps35
    go_wp2_with fail
    go_ret
    exact⟨false,rfl,by simp[Gx.out],gJ⟩
 ·have qi:(pk != qk)=true:=by simpa using hpq
  have fh:=hid hpq
  clear hpq
  go_enter Tryz.func35,Tryz.ntmps35
  go_wp2_with fail
  go_ret
  exact⟨false,rfl,by simp[fh.out],gJ⟩
theorem Qwf(a b:ByteArray):(a.toList == b.toList)=decide (a=b):=by
 by_cases h:a=b
 ·subst h;simp
 ·rw[decide_eq_false h,beq_eq_false_iff_ne]
  intro e
  rw[ByteArray.toList_eq,ByteArray.toList_eq]at e
  exact h (ByteArray.ext (Array.toList_inj.1 e))
set_option maxRecDepth 100000 in
theorem QPl(v u:Value)(l1 l2:List FdT)(w:World)(h1:Qxc w v l1)(h2:Qxc w u l2)(Ks:l1.length≤9223372036854775807)(mg:∀x∈l1,x.2.parts.length≤9223372036854775807∧∀p∈x.2.parts,p.cells.length≤9223372036854775807) :
 Calls Tryz.prog 15 #[v,u] w fun e w'=>∃b,e = .returned (.bool b)∧(b=true↔l1=l2)∧Below w.heap.size w w':=by
 obtain⟨a,cap,rfl⟩:=h1.slice
 obtain⟨a',cap',rfl⟩:=h2.slice
 have H1:=hid h1;have H2:=hid h2
 have Kh:=hid mg
 clear h1 h2 mg
 by_cases hl:l1.length=l2.length
 ·have hl':((l1.length:Int) != (l2.length:Int))=false:=by rw[bne_eq_false_iff_eq];omega
  have HL:=hid hl
  have gJ:=hid (Below.refl w.heap.size w)
  clear hl
  go_enter Tryz.func15,Tryz.ntmps15
  go_wp2_with fail
  go_loopg [16] l1.length (fun f x wr=>∃i:Nat,x = .int .i64 i∧i≤l1.length∧l1.length≤i+f∧Hid (∀j (h1:j<l1.length) (h2:j<l2.length),j<i→l1[j]=l2[j])∧Below w.heap.size w wr)
  case atStart=>exact⟨0,rfl,by omega,by omega,hid (fun j _ _ h=>by omega),gJ.out⟩
  case round=>
   obtain⟨io,rfl,GV,kU,Hg,hb⟩:=hrel
   obtain⟨go,rfl⟩:∃x:Nat,x=gk:=⟨_,rfl⟩
   obtain⟨wo,rfl⟩:∃x:World,x=wr:=⟨_,rfl⟩
   by_cases Hj:io<l1.length
   ·have ki:io<l2.length:=by rw[←HL.out];exact Hj
    have k1:(io:Int)<l1.length:=by omega
    have k2:(io:Int)<l2.length:=by omega
    obtain⟨_,_,e1,g1⟩:=H1.out.new hb
    cases e1
    obtain⟨g,o,rfl,hg,hc⟩:=g1 (by omega)
    obtain⟨xv,c0,c1,c2,c3,c4,c5,c6,lU⟩:=hc io Hj
    obtain⟨_,_,e2,g2⟩:=H2.out.new hb
    cases e2
    obtain⟨g',o',rfl,hg',hd⟩:=g2 (by omega)
    obtain⟨yv,d0,d1,d2,d3,d4,d5,d6,lV⟩:=hd io ki
    obtain⟨sA,nQ⟩:=Kh.out l1[io] (List.getElem_mem Hj)
    have eW:=hid (show ∀x y:FdT,x=l1[io]→y=l2[io]→x=y→∀j (h1:j<l1.length) (h2:j<l2.length),j<io+1→l1[j]=l2[j]from fun x y ex ey exy j h1 h2 hj=>by
     by_cases e:j=io
     ·subst e;rw[←ex,←ey,exy]
     ·exact Hg.out j h1 h2 (by omega))
    have gP:=hid (show l1=l2→l1[io]=l2[io]from fun e=>by subst e;rfl)
    obtain⟨x,hx⟩:∃x,x=l1[io]:=⟨_,rfl⟩
    obtain⟨y,hy⟩:∃y,y=l2[io]:=⟨_,rfl⟩
    have qG:=hid (fun e=>eW.out x y hx hy e)
    rw[←hx]at c0 c1 c2 c4 c5 c6 lU sA nQ gP
    rw[←hy]at d0 d1 d2 d4 d5 d6 lV gP
    clear eW hx hy hc hd g1 g2 Hg
    obtain⟨xf,xk,xl,xn,xps,xln,xcl⟩:=x
    obtain⟨yf,yk,yl,yn,yps,yln,ycl⟩:=y
    simp only at c0 c1 c2 c4 c5 c6 d0 d1 d2 d4 d5 d6 lU lV sA nQ
    obtain⟨xa,xc,rfl⟩:=lU.slice
    obtain⟨ya,yc,rfl⟩:=lV.slice
    have MJ:=hid (show l1=l2→xk=yk∧xl=yl∧xn=yn∧xf=yf∧xln=yln∧xcl=ycl∧xps.length=yps.length from fun e=>by
     have h9:=gP.out e
     injection h9 with h8 h9
     injection h9 with q1 q2 q3 q4 q5 q6
     exact⟨q1,q2,q3,h8,q5,q6,by rw[q4]⟩)
    have fh:=hid (show l1=l2→xps=yps from fun e=>by
     have h9:=gP.out e
     injection h9 with h8 h9
     injection h9)
    have eY:=hid (show xk=yk→xl=yl→xn=yn→xf=yf→xln=yln→xcl=ycl→xps=yps→∀j (h1:j<l1.length) (h2:j<l2.length),j<io+1→l1[j]=l2[j]from fun a1 a2 a3 a4 a5 a6 a7=>qG.out (by subst a1 a2 a3 a4 a5 a6 a7;rfl))
    have OKL:=hid nQ
    have PX:=hid (show ∀wz,Below wo.heap.size wo wz→Qfd wz (.slice xa xps.length xc) xps from fun wz hz=>lU.new hz)
    have PY:=hid (show ∀wz,Below wo.heap.size wo wz→Qfd wz (.slice ya yps.length yc) yps from fun wz hz=>lV.new hz)
    have Jn:=hid hb
    clear gP qG nQ lU lV hb
    go_upto_region 6 with fail
    go_region
    ·have HX:=hid (((Qca.new wo #[.int .i64 xk,.string xl,.string xn,.slice xa xps.length xc,.int .i64 xf,.int .i64 xln,.int .i64 xcl] 34).alloc (Obj.cells #[.int .i64 yk,.string yl,.string yn,.slice ya yps.length yc,.int .i64 yf,.int .i64 yln,.int .i64 ycl] 34)).drew)
     have HY:=hid (((Qca.newAt (w:=wo.alloc (Obj.cells #[.int .i64 xk,.string xl,.string xn,.slice xa xps.length xc,.int .i64 xf,.int .i64 xln,.int .i64 xcl] 34)) (B:=wo.heap.size+1) (by simp) #[.int .i64 yk,.string yl,.string yn,.slice ya yps.length yc,.int .i64 yf,.int .i64 yln,.int .i64 ycl] 34)).drew)
     have mL:=hid ((((Below.refl wo.heap.size wo).alloc (Nat.le_refl _) (.cells #[.int .i64 xk,.string xl,.string xn,.slice xa xps.length xc,.int .i64 xf,.int .i64 xln,.int .i64 xcl] 34)).alloc (by simp) (.cells #[.int .i64 yk,.string yl,.string yn,.slice ya yps.length yc,.int .i64 yf,.int .i64 yln,.int .i64 ycl] 34)).drew)
     have MH:=hid (Jn.out.trans (mL.out.mono Jn.out.size))
     clear c0 c1 c2 c3 c4 c5 c6 d0 d1 d2 d3 d4 d5 d6
     generalize ((wo.alloc (.cells #[.int .i64 xk,.string xl,.string xn,.slice xa xps.length xc,.int .i64 xf,.int .i64 xln,.int .i64 xcl] 34)).alloc (.cells #[.int .i64 yk,.string yl,.string yn,.slice ya yps.length yc,.int .i64 yf,.int .i64 yln,.int .i64 ycl] 34)).drew=w1 at *
     obtain⟨c0,c1,c2,c3,c4,c5,c6⟩:=Qqa HX.out
     obtain⟨d0,d1,d2,d3,d4,d5,d6⟩:=Qqa HY.out
     have ng:=HX.out.lt
     have qC:=HY.out.lt
     by_cases hk:xk=yk
     ·have hk':(xk != yk)=false:=by rw[bne_eq_false_iff_eq];exact hk
      have oA:=hid hk
      clear hk
      by_cases hl:xl=yl
      ·have hl':(xl.toList == yl.toList)=true:=by rw[hl];simp
       have oD:=hid hl
       clear hl
       by_cases hn:xn=yn
       ·have hn':(xn.toList == yn.toList)=true:=by rw[hn];simp
        have oJ:=hid hn
        clear hn
        by_cases hf:xf=yf
        ·have hf':(xf == yf)=true:=by rw[beq_iff_eq];exact hf
         have ou:=hid hf
         clear hf
         by_cases kV:xln=yln
         ·have eu:(xln == yln)=true:=by rw[beq_iff_eq];exact kV
          have cX:=hid kV
          clear kV
          by_cases kh:xcl=ycl
          ·have ed:(xcl == ycl)=true:=by rw[beq_iff_eq];exact kh
           have cP:=hid kh
           clear kh
           by_cases Gx:xps.length=yps.length
           ·have eF:((xps.length:Int) != (yps.length:Int))=false:=by rw[bne_eq_false_iff_eq];omega
            have JM:=hid Gx
            clear Gx
            go_wp2_with fail
            go_loopg [65] xps.length (fun f x wx=>∃k:Nat,x = .int .i64 k∧k≤xps.length∧xps.length≤k+f∧Hid (∀j (h1:j<xps.length) (h2:j<yps.length),j<k→xps[j]=yps[j])∧Qca wx wo.heap.size #[.int .i64 xk,.string xl,.string xn,.slice xa xps.length xc,.int .i64 xf,.int .i64 xln,.int .i64 xcl] 34∧Qca wx (wo.heap.size+1) #[.int .i64 yk,.string yl,.string yn,.slice ya yps.length yc,.int .i64 yf,.int .i64 yln,.int .i64 ycl] 34∧Below wo.heap.size wo wx)
            case atStart=>exact⟨0,rfl,by omega,by omega,hid (fun j _ _ h=>by omega),HX.out,HY.out,⟨mL.out.os,mL.out.tape,mL.out.output,mL.out.size,mL.out.block⟩⟩
            case round=>
             clear c0 c1 c2 c3 c4 c5 c6 d0 d1 d2 d3 d4 d5 d6
             obtain⟨k,rfl,Ht,Ho,Km,jQ,J2,Hn⟩:=hrel
             have t8:=jQ.cell 3
             have t9:=J2.cell 3
             by_cases hklt:k<xps.length
             ·have aw:k<yps.length:=by have:=JM.out;omega
              have m1:(k:Int)<xps.length:=by omega
              have m2:(k:Int)<yps.length:=by omega
              obtain⟨_,_,e1,g1⟩:=PX.out wr Hn
              cases e1
              obtain⟨pg,po,rfl,ux,hc⟩:=g1 (by omega)
              obtain⟨cv,p0,p1,p2,p3⟩:=hc k hklt
              obtain⟨_,_,e2,g2⟩:=PY.out wr Hn
              cases e2
              obtain⟨qg,qo,rfl,uz,hd⟩:=g2 (by omega)
              obtain⟨du,q0,q1,q2,q3⟩:=hd k aw
              have dm:=hid (fun(wz:World) (hz:Below wr.heap.size wr wz)=>Q5f xps[k] yps[k] cv du wz (p3.new hz) (q3.new hz) (OKL.out _ (List.getElem_mem hklt)))
              have oX:=hid jQ
              have oZ:=hid J2
              have GI:=hid Hn
              have ng:=jQ.lt
              have qC:=J2.lt
              obtain⟨ca,cc,e3⟩:=p3.slice
              obtain⟨da,dc,e4⟩:=q3.slice
              have mq:=hid (show xps[k]≠yps[k]→l1≠l2 from fun hn e=>hn (by have h9:=(fh.out e);subst h9;rfl))
              have fN:=hid (show ∀x y:QRa,x=xps[k]→y=yps[k]→x=y→∀j (h1:j<xps.length) (h2:j<yps.length),j<k+1→xps[j]=yps[j]from fun x y ex ey exy j h1 h2 hj=>by
               by_cases e:j=k
               ·subst e;rw[←ex,←ey,exy]
               ·exact Km.out j h1 h2 (by omega))
              have aM:∃x,x=xps[k]:=⟨_,rfl⟩
              obtain⟨xq,aM⟩:=aM
              have Jm:∃y,y=yps[k]:=⟨_,rfl⟩
              obtain⟨yq,Jm⟩:=Jm
              have eW:=hid (fun e=>fN.out xq yq aM Jm e)
              rw[←aM]at p0 p2 e3 dm mq
              rw[←Jm]at q0 q2 e4 dm mq
              clear fN aM Jm jQ J2 p3 q3 hc hd g1 g2 Km
              obtain⟨xk3,xcs,xt3⟩:=xq
              obtain⟨yk3,ycs,yt3⟩:=yq
              simp only at p0 p2 q0 q2 e3 e4
              subst e3 e4
              go_upto_region 12 with fail
              go_region_with (go_at_call 35;refine(by exact dm.out _ ((Below.refl _ _).drew):Calls _ _ _ _ _).mono ?_;rintro e w2 ⟨b,rfl,bA,gv⟩)
              all_goals
               have MZ:Below wr.heap.size wr w2:=((Below.refl wr.heap.size wr).drew).trans gv
               have jk:=hid (GI.out.trans (MZ.mono GI.out.size))
               have jl:=hid (Jn.out.trans (jk.out.mono Jn.out.size))
               have oW:=hid (oX.out.keeps (Qaa.of_fresh MZ (fun _=>False)) (fun e=>e))
               have oY:=hid (oZ.out.keeps (Qaa.of_fresh MZ (fun _=>False)) (fun e=>e))
               clear gv MZ
               cases b with
               | true=>
                have eY:=hid (eW.out (bA.1 rfl))
                clear bA
                go_wp2_with fail
                go_roundg (gk-1)
                case measure=>omega
                case rel=>exact⟨k+1,by go_num,by omega,by omega,hid eY.out,oW.out,oY.out,⟨jk.out.os,jk.out.tape,jk.out.output,jk.out.size,jk.out.block⟩⟩
               | false=>
                have Hq:=hid (mq.out (fun e=>by have:=bA.2 e;cases this))
                clear bA
                go_wp2_with fail
                go_ret
                exact⟨false,rfl,by simp[Hq.out],jl.out⟩
             ·obtain rfl:k=xps.length:=by omega
              have qh:=hid (show xps=yps from List.ext_getElem JM.out (fun j j1 j2=>Km.out j j1 j2 j1))
              have gP:=hid (eY.out oA.out oD.out oJ.out ou.out cX.out cP.out qh.out)
              have GI:=hid (Jn.out.trans (Hn.mono Jn.out.size))
              clear jQ J2 Km Hn
              go_wp2_with fail
              go_roundg (go-1)
              case measure=>omega
              case rel=>exact⟨io+1,by go_num,by omega,by omega,hid gP.out,⟨GI.out.os,GI.out.tape,GI.out.output,GI.out.size,GI.out.block⟩⟩
           ·have eF:((xps.length:Int) != (yps.length:Int))=true:=by rw[bne_iff_ne];omega
            have Hq:=hid (show l1≠l2 from fun e=>Gx (MJ.out e).2.2.2.2.2.2)
            clear Gx
            go_wp2_with fail
            all_goals
             go_ret
             exact⟨false,rfl,by simp[Hq.out],MH.out⟩
          ·have ed:(xcl == ycl)=false:=by rw[beq_eq_false_iff_ne];exact kh
           have Hq:=hid (show l1≠l2 from fun e=>kh (MJ.out e).2.2.2.2.2.1)
           clear kh
           go_wp2_with fail
           all_goals
            go_ret
            exact⟨false,rfl,by simp[Hq.out],MH.out⟩
         ·have eu:(xln == yln)=false:=by rw[beq_eq_false_iff_ne];exact kV
          have Hq:=hid (show l1≠l2 from fun e=>kV (MJ.out e).2.2.2.2.1)
          clear kV
          go_wp2_with fail
          all_goals
           go_ret
           exact⟨false,rfl,by simp[Hq.out],MH.out⟩
        ·have hf':(xf == yf)=false:=by rw[beq_eq_false_iff_ne];exact hf
         have Hq:=hid (show l1≠l2 from fun e=>hf (MJ.out e).2.2.2.1)
         clear hf
         go_wp2_with fail
         all_goals
          go_ret
          exact⟨false,rfl,by simp[Hq.out],MH.out⟩
       ·have hn':(xn.toList == yn.toList)=false:=by rw[Qwf];exact decide_eq_false hn
        have Hq:=hid (show l1≠l2 from fun e=>hn (MJ.out e).2.2.1)
        clear hn
        go_wp2_with fail
        all_goals
         go_ret
         exact⟨false,rfl,by simp[Hq.out],MH.out⟩
      ·have hl':(xl.toList == yl.toList)=false:=by rw[Qwf];exact decide_eq_false hl
       have Hq:=hid (show l1≠l2 from fun e=>hl (MJ.out e).2.1)
       clear hl
       go_wp2_with fail
       all_goals
        go_ret
        exact⟨false,rfl,by simp[Hq.out],MH.out⟩
     ·have hk':(xk != yk)=true:=by rw[bne_iff_ne];exact hk
      have Hq:=hid (show l1≠l2 from fun e=>hk (MJ.out e).1)
      clear hk
      go_wp2_with fail
      all_goals
       go_ret
       exact⟨false,rfl,by simp[Hq.out],MH.out⟩
    ·have HX:=hid (((Qca.newAt (w:=wo.alloc (Obj.cells #[.int .i64 yk,.string yl,.string yn,.slice ya yps.length yc,.int .i64 yf,.int .i64 yln,.int .i64 ycl] 34)) (B:=wo.heap.size+1) (by simp) #[.int .i64 xk,.string xl,.string xn,.slice xa xps.length xc,.int .i64 xf,.int .i64 xln,.int .i64 xcl] 34)).drew)
     have HY:=hid (((Qca.new wo #[.int .i64 yk,.string yl,.string yn,.slice ya yps.length yc,.int .i64 yf,.int .i64 yln,.int .i64 ycl] 34).alloc (Obj.cells #[.int .i64 xk,.string xl,.string xn,.slice xa xps.length xc,.int .i64 xf,.int .i64 xln,.int .i64 xcl] 34)).drew)
     have mL:=hid ((((Below.refl wo.heap.size wo).alloc (Nat.le_refl _) (.cells #[.int .i64 yk,.string yl,.string yn,.slice ya yps.length yc,.int .i64 yf,.int .i64 yln,.int .i64 ycl] 34)).alloc (by simp) (.cells #[.int .i64 xk,.string xl,.string xn,.slice xa xps.length xc,.int .i64 xf,.int .i64 xln,.int .i64 xcl] 34)).drew)
     have MH:=hid (Jn.out.trans (mL.out.mono Jn.out.size))
     clear c0 c1 c2 c3 c4 c5 c6 d0 d1 d2 d3 d4 d5 d6
     generalize ((wo.alloc (.cells #[.int .i64 yk,.string yl,.string yn,.slice ya yps.length yc,.int .i64 yf,.int .i64 yln,.int .i64 ycl] 34)).alloc (.cells #[.int .i64 xk,.string xl,.string xn,.slice xa xps.length xc,.int .i64 xf,.int .i64 xln,.int .i64 xcl] 34)).drew=w1 at *
     obtain⟨c0,c1,c2,c3,c4,c5,c6⟩:=Qqa HX.out
     obtain⟨d0,d1,d2,d3,d4,d5,d6⟩:=Qqa HY.out
     have ng:=HX.out.lt
     have qC:=HY.out.lt
     by_cases hk:xk=yk
     ·have hk':(xk != yk)=false:=by rw[bne_eq_false_iff_eq];exact hk
      have oA:=hid hk
      clear hk
      by_cases hl:xl=yl
      ·have hl':(xl.toList == yl.toList)=true:=by rw[hl];simp
       have oD:=hid hl
       clear hl
       by_cases hn:xn=yn
       ·have hn':(xn.toList == yn.toList)=true:=by rw[hn];simp
        have oJ:=hid hn
        clear hn
        by_cases hf:xf=yf
        ·have hf':(xf == yf)=true:=by rw[beq_iff_eq];exact hf
         have ou:=hid hf
         clear hf
         by_cases kV:xln=yln
         ·have eu:(xln == yln)=true:=by rw[beq_iff_eq];exact kV
          have cX:=hid kV
          clear kV
          by_cases kh:xcl=ycl
          ·have ed:(xcl == ycl)=true:=by rw[beq_iff_eq];exact kh
           have cP:=hid kh
           clear kh
           by_cases Gx:xps.length=yps.length
           ·have eF:((xps.length:Int) != (yps.length:Int))=false:=by rw[bne_eq_false_iff_eq];omega
            have JM:=hid Gx
            clear Gx
            go_wp2_with fail
            go_loopg [65] xps.length (fun f x wx=>∃k:Nat,x = .int .i64 k∧k≤xps.length∧xps.length≤k+f∧Hid (∀j (h1:j<xps.length) (h2:j<yps.length),j<k→xps[j]=yps[j])∧Qca wx (wo.heap.size+1) #[.int .i64 xk,.string xl,.string xn,.slice xa xps.length xc,.int .i64 xf,.int .i64 xln,.int .i64 xcl] 34∧Qca wx wo.heap.size #[.int .i64 yk,.string yl,.string yn,.slice ya yps.length yc,.int .i64 yf,.int .i64 yln,.int .i64 ycl] 34∧Below wo.heap.size wo wx)
            case atStart=>exact⟨0,rfl,by omega,by omega,hid (fun j _ _ h=>by omega),HX.out,HY.out,⟨mL.out.os,mL.out.tape,mL.out.output,mL.out.size,mL.out.block⟩⟩
            case round=>
             clear c0 c1 c2 c3 c4 c5 c6 d0 d1 d2 d3 d4 d5 d6
             obtain⟨k,rfl,Ht,Ho,Km,jQ,J2,Hn⟩:=hrel
             have t8:=jQ.cell 3
             have t9:=J2.cell 3
             by_cases hklt:k<xps.length
             ·have aw:k<yps.length:=by have:=JM.out;omega
              have m1:(k:Int)<xps.length:=by omega
              have m2:(k:Int)<yps.length:=by omega
              obtain⟨_,_,e1,g1⟩:=PX.out wr Hn
              cases e1
              obtain⟨pg,po,rfl,ux,hc⟩:=g1 (by omega)
              obtain⟨cv,p0,p1,p2,p3⟩:=hc k hklt
              obtain⟨_,_,e2,g2⟩:=PY.out wr Hn
              cases e2
              obtain⟨qg,qo,rfl,uz,hd⟩:=g2 (by omega)
              obtain⟨du,q0,q1,q2,q3⟩:=hd k aw
              have dm:=hid (fun(wz:World) (hz:Below wr.heap.size wr wz)=>Q5f xps[k] yps[k] cv du wz (p3.new hz) (q3.new hz) (OKL.out _ (List.getElem_mem hklt)))
              have oX:=hid jQ
              have oZ:=hid J2
              have GI:=hid Hn
              have ng:=jQ.lt
              have qC:=J2.lt
              obtain⟨ca,cc,e3⟩:=p3.slice
              obtain⟨da,dc,e4⟩:=q3.slice
              have mq:=hid (show xps[k]≠yps[k]→l1≠l2 from fun hn e=>hn (by have h9:=(fh.out e);subst h9;rfl))
              have fN:=hid (show ∀x y:QRa,x=xps[k]→y=yps[k]→x=y→∀j (h1:j<xps.length) (h2:j<yps.length),j<k+1→xps[j]=yps[j]from fun x y ex ey exy j h1 h2 hj=>by
               by_cases e:j=k
               ·subst e;rw[←ex,←ey,exy]
               ·exact Km.out j h1 h2 (by omega))
              have aM:∃x,x=xps[k]:=⟨_,rfl⟩
              obtain⟨xq,aM⟩:=aM
              have Jm:∃y,y=yps[k]:=⟨_,rfl⟩
              obtain⟨yq,Jm⟩:=Jm
              have eW:=hid (fun e=>fN.out xq yq aM Jm e)
              rw[←aM]at p0 p2 e3 dm mq
              rw[←Jm]at q0 q2 e4 dm mq
              clear fN aM Jm jQ J2 p3 q3 hc hd g1 g2 Km
              obtain⟨xk3,xcs,xt3⟩:=xq
              obtain⟨yk3,ycs,yt3⟩:=yq
              simp only at p0 p2 q0 q2 e3 e4
              subst e3 e4
              go_upto_region 12 with fail
              go_region_with (go_at_call 35;refine(by exact dm.out _ ((Below.refl _ _).drew):Calls _ _ _ _ _).mono ?_;rintro e w2 ⟨b,rfl,bA,gv⟩)
              all_goals
               have MZ:Below wr.heap.size wr w2:=((Below.refl wr.heap.size wr).drew).trans gv
               have jk:=hid (GI.out.trans (MZ.mono GI.out.size))
               have jl:=hid (Jn.out.trans (jk.out.mono Jn.out.size))
               have oW:=hid (oX.out.keeps (Qaa.of_fresh MZ (fun _=>False)) (fun e=>e))
               have oY:=hid (oZ.out.keeps (Qaa.of_fresh MZ (fun _=>False)) (fun e=>e))
               clear gv MZ
               cases b with
               | true=>
                have eY:=hid (eW.out (bA.1 rfl))
                clear bA
                go_wp2_with fail
                go_roundg (gk-1)
                case measure=>omega
                case rel=>exact⟨k+1,by go_num,by omega,by omega,hid eY.out,oW.out,oY.out,⟨jk.out.os,jk.out.tape,jk.out.output,jk.out.size,jk.out.block⟩⟩
               | false=>
                have Hq:=hid (mq.out (fun e=>by have:=bA.2 e;cases this))
                clear bA
                go_wp2_with fail
                go_ret
                exact⟨false,rfl,by simp[Hq.out],jl.out⟩
             ·obtain rfl:k=xps.length:=by omega
              have qh:=hid (show xps=yps from List.ext_getElem JM.out (fun j j1 j2=>Km.out j j1 j2 j1))
              have gP:=hid (eY.out oA.out oD.out oJ.out ou.out cX.out cP.out qh.out)
              have GI:=hid (Jn.out.trans (Hn.mono Jn.out.size))
              clear jQ J2 Km Hn
              go_wp2_with fail
              go_roundg (go-1)
              case measure=>omega
              case rel=>exact⟨io+1,by go_num,by omega,by omega,hid gP.out,⟨GI.out.os,GI.out.tape,GI.out.output,GI.out.size,GI.out.block⟩⟩
           ·have eF:((xps.length:Int) != (yps.length:Int))=true:=by rw[bne_iff_ne];omega
            have Hq:=hid (show l1≠l2 from fun e=>Gx (MJ.out e).2.2.2.2.2.2)
            clear Gx
            go_wp2_with fail
            all_goals
             go_ret
             exact⟨false,rfl,by simp[Hq.out],MH.out⟩
          ·have ed:(xcl == ycl)=false:=by rw[beq_eq_false_iff_ne];exact kh
           have Hq:=hid (show l1≠l2 from fun e=>kh (MJ.out e).2.2.2.2.2.1)
           clear kh
           go_wp2_with fail
           all_goals
            go_ret
            exact⟨false,rfl,by simp[Hq.out],MH.out⟩
         ·have eu:(xln == yln)=false:=by rw[beq_eq_false_iff_ne];exact kV
          have Hq:=hid (show l1≠l2 from fun e=>kV (MJ.out e).2.2.2.2.1)
          clear kV
          go_wp2_with fail
          all_goals
           go_ret
           exact⟨false,rfl,by simp[Hq.out],MH.out⟩
        ·have hf':(xf == yf)=false:=by rw[beq_eq_false_iff_ne];exact hf
         have Hq:=hid (show l1≠l2 from fun e=>hf (MJ.out e).2.2.2.1)
         clear hf
         go_wp2_with fail
         all_goals
          go_ret
          exact⟨false,rfl,by simp[Hq.out],MH.out⟩
       ·have hn':(xn.toList == yn.toList)=false:=by rw[Qwf];exact decide_eq_false hn
        have Hq:=hid (show l1≠l2 from fun e=>hn (MJ.out e).2.2.1)
        clear hn
        go_wp2_with fail
        all_goals
         go_ret
         exact⟨false,rfl,by simp[Hq.out],MH.out⟩
      ·have hl':(xl.toList == yl.toList)=false:=by rw[Qwf];exact decide_eq_false hl
       have Hq:=hid (show l1≠l2 from fun e=>hl (MJ.out e).2.1)
       clear hl
       go_wp2_with fail
       all_goals
        go_ret
        exact⟨false,rfl,by simp[Hq.out],MH.out⟩
     ·have hk':(xk != yk)=true:=by rw[bne_iff_ne];exact hk
      have Hq:=hid (show l1≠l2 from fun e=>hk (MJ.out e).1)
      clear hk
      go_wp2_with fail
      all_goals
       go_ret
       exact⟨false,rfl,by simp[Hq.out],MH.out⟩
   ·obtain rfl:io=l1.length:=by omega
    have Gx:=hid (show l1=l2 from List.ext_getElem HL.out (fun j j1 j2=>Hg.out j j1 j2 j1))
    have HB:=hid hb
    clear hb Hg
    go_wp2_with fail
    go_ret
    exact⟨true,rfl,by simp[Gx.out],⟨HB.out.os,HB.out.tape,HB.out.output,HB.out.size,HB.out.block⟩⟩
 ·have hl':((l1.length:Int) != (l2.length:Int))=true:=by rw[bne_iff_ne];omega
  have Hq:=hid (show l1≠l2 from fun e=>hl (by rw[e]))
  clear hl
  go_enter Tryz.func15,Tryz.ntmps15
  go_wp2_with fail
  go_ret
  exact⟨false,rfl,by simp[Hq.out],Below.refl _ _⟩
end Go.Proofs.YtofhcgbihonckaaGreat
