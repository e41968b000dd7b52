/- Definitions of several files in memory: rows that grow, and reading them. | Definitions in memory, to read (wherever they lie). | Contracts of bringupref04: samePart. | Contracts of bringupref04: Same (printed by gsame.py). -/
import Derived.Test.YtofhcgbihonckaaGreatZ9
import Derived.Test.YtofhcgbihonckaaGreatZ18
import Derived.Deep.AppendSrc
import Derived.Deep.LoopGhost
import Derived.Deep.RegionWith
set_option linter.all false
set_option maxHeartbeats 8000000
namespace Go.Proofs.YtofhcgbihonckaaGreat
open Go.Lib (hid)
open Go.RowKit
def QEa:List FdT→List Value→List Value
 | x::xs,v::vs=>.int .i64 x.2.kind :: .string x.2.label :: .string x.2.name::v :: .int .i64 x.1 :: .int .i64 x.2.line :: .int .i64 x.2.col::QEa xs vs
 | _,_=>[]
theorem Qng:∀(l:List FdT) (vs:List Value),vs.length=l.length→(QEa l vs).length=l.length*7
 | [],[],_=>rfl
 | x::xs,v::vs,h=>by simp only[QEa,List.length_cons];rw[Qng xs vs (by simpa using h)];omega
theorem QBe:∀(a b:List FdT) (us vs:List Value),us.length=a.length→QEa (a++b) (us++vs)=QEa a us++QEa b vs
 | [],_,[],_,_=>rfl
 | x::xs,b,u::us,vs,h=>by simp only[QEa,List.cons_append];rw[QBe xs b us vs (by simpa using h)]
theorem Qpg(file:Int):∀(D:List Qwa) (vs:List Value),vs.length=D.length→QRb file D vs=QEa (QUd file D) vs
 | [],[],_=>rfl
 | d::D,v::vs,h=>by simp only[QRb,QUd,List.map_cons,QEa];rw[Qpg file D vs (by simpa using h)];rfl
def Qsa(w:World)(base:Nat)(v:Value)(l:List FdT):Prop:=
 ∃vs:List Value,vs.length=l.length∧w.ownsRow base 34 7 v l.length (QEa l vs)∧∀k (h:k<l.length) (h2:k<vs.length),Qha w base vs[k] l[k].2.parts
theorem Q7a.fds{w:World}{base:Nat}{file:Int}{v:Value}{D:List Qwa}(h:Q7a w base file v D):Qsa w base v (QUd file D):=by
 obtain⟨vs,h1,h2,h3⟩:=h
 have hl:(QUd file D).length=D.length:=by simp[QUd]
 refine⟨vs,by rw[hl];exact h1,by rw[hl,←Qpg file D vs h1];exact h2,fun k hk Hp=>?_⟩
 have:=h3 k (by omega) Hp
 simpa[QUd]using this
section
variable{w w':World}{base:Nat}{v:Value}{l:List FdT}
theorem Qsa.nil(w:World)(base:Nat):Qsa w base (.slice none 0 0) []:=⟨[],rfl,World.ownsRow_nil _ _ _ _,fun _ h=>by cases h⟩
theorem Qsa.slice(h:Qsa w base v l):∃a c,v = .slice a l.length c:=by obtain⟨_,_,h,_⟩:=h;exact Qia h
theorem Qsa.lower{b2:Nat}(h:Qsa w base v l)(hb:b2≤base):Qsa w b2 v l:=by
 obtain⟨vs,h1,h2,h3⟩:=h
 exact⟨vs,h1,QMc h2 hb,fun j h h'=>(h3 j h h').lower hb⟩
theorem Qsa.keeps{S:Nat→Prop}(h:Qsa w base v l)(k:Qaa S w w')(hs:∀g,v.ownBlock=some g→¬S g)(ha:∀b,b<w.heap.size→S b→∀cur,¬Qca w b cur 72∧¬Qca w b cur 75):Qsa w' base v l:=by
 obtain⟨vs,h1,h2,h3⟩:=h
 have key:∀{e:TypeId} {size n:Nat} {u:Value} {xs:List Value},w.ownsRow base e size u n xs→(e=72∨e=75)→∀g,u.ownBlock=some g→¬S g:=by
  intro e size n u xs hr he g hg hS
  obtain⟨b1,_,cur,b2⟩:=Qpa hr hg
  rcases he with rfl|rfl
  ·exact(ha g b1 hS cur).1 b2
  ·exact(ha g b1 hS cur).2 b2
 refine⟨vs,h1,Qba h2 k hs,fun j hj Gr=>?_⟩
 obtain⟨us,u1,u2,u3⟩:=h3 j hj Gr
 exact⟨us,u1,Qba u2 k (key u2 (.inr rfl)),fun i hi Kc=>Qba (u3 i hi Kc) k (key (u3 i hi Kc) (.inl rfl))⟩
theorem Qsa.new(h:Qsa w base v l)(k:Below w.heap.size w w'):Qsa w' base v l:=
 h.keeps (Qaa.of_fresh k (fun _=>False)) (fun _ _ e=>e) (fun _ _ e=>e.elim)
theorem Qpd:∀(l:List FdT) (vs:List Value) (k:Nat) (h:k<l.length) (h2:k<vs.length),vs.length=l.length→
 (QEa l vs)[k*7]? = some (.int .i64 l[k].2.kind)∧(QEa l vs)[k*7+1]? = some (.string l[k].2.label)∧(QEa l vs)[k*7+2]? = some (.string l[k].2.name)∧(QEa l vs)[k*7+3]? = some vs[k]∧
 (QEa l vs)[k*7+4]? = some (.int .i64 l[k].1)∧(QEa l vs)[k*7+5]? = some (.int .i64 l[k].2.line)∧(QEa l vs)[k*7+6]? = some (.int .i64 l[k].2.col)
 | d::D,v::vs,0,_,_,_=>⟨rfl,rfl,rfl,rfl,rfl,rfl,rfl⟩
 | d::D,v::vs,k+1,h,h2,hl=>by
  have:=Qpd D vs k (by simpa using h) (by simpa using h2) (by simpa using hl)
  rw[show(k+1)*7=k*7+7 from by omega]
  exact this
theorem Qsa.at(h:Qsa w base v l)(k:Nat)(hk:k<l.length):∃g cap pv,v = .slice (some ⟨g,0,none⟩) l.length cap∧g<w.heap.size∧base≤g∧w.cell? ⟨g,k*7,none⟩=some (.int .i64 l[k].2.kind)∧w.cell? ⟨g,k*7+1,none⟩=some (.string l[k].2.label)∧w.cell? ⟨g,k*7+2,none⟩=some (.string l[k].2.name)∧w.cell? ⟨g,k*7+3,none⟩=some pv∧
 w.cell? ⟨g,k*7+4,none⟩=some (.int .i64 l[k].1)∧w.cell? ⟨g,k*7+5,none⟩=some (.int .i64 l[k].2.line)∧w.cell? ⟨g,k*7+6,none⟩=some (.int .i64 l[k].2.col)∧Qha w base pv l[k].2.parts:=by
 obtain⟨vs,hl,hr,hs⟩:=h
 obtain⟨g,cap,rfl,hg,hb,hc⟩:=QVb hr (by omega)
 obtain⟨a0,a1,a2,a3,a4,a5,a6⟩:=Qpd l vs k hk (by omega) hl
 exact⟨g,cap,vs[k]'(by omega),rfl,hg,hb,(hc _ (by omega)).trans a0,(hc _ (by omega)).trans a1,(hc _ (by omega)).trans a2,(hc _ (by omega)).trans a3,(hc _ (by omega)).trans a4,(hc _ (by omega)).trans a5,(hc _ (by omega)).trans a6,hs k hk (by omega)⟩
theorem Qsa.app{w1:World}{v':Value}{l2:List FdT}{us vs:List Value}(h1:us.length=l.length)(h2:vs.length=l2.length)
 (hr:w1.ownsRow base 34 7 v' (l.length+l2.length) (QEa l us++QEa l2 vs))
 (hp:∀k (h:k<l.length) (h2:k<us.length),Qha w1 base us[k] l[k].2.parts) (hq:∀k (h:k<l2.length) (h2:k<vs.length),Qha w1 base vs[k] l2[k].2.parts):Qsa w1 base v' (l++l2):=by
 refine⟨us++vs,by rw[List.length_append,List.length_append,h1,h2],by rw[List.length_append,QBe l l2 us vs h1];exact hr,fun k hk Hp=>?_⟩
 by_cases Hh:k<l.length
 ·rw[List.getElem_append_left (by omega),List.getElem_append_left Hh]
  exact hp k Hh (by omega)
 ·rw[List.getElem_append_right (by omega),List.getElem_append_right (by omega)]
  rw[List.length_append]at hk
  have:=hq (k-l.length) (by omega) (by omega)
  simpa[h1]using this
end
def QBd(w:World)(v:Value)(cs:List QJb):Prop:=
 ∃(a:Option Addr) (cap:Nat),v = .slice a cs.length cap∧(0<cs.length→∃g o,a=some ⟨g,o,none⟩∧g<w.heap.size∧∀(i:Nat) (h:i<cs.length),w.cell? ⟨g,o+i*2,none⟩=some (.int .i64 cs[i].value)∧w.cell? ⟨g,o+i*2+1,none⟩=some (.string cs[i].label))
def QCd(w:World)(v:Value)(ps:List QRa):Prop:=
 ∃(a:Option Addr) (cap:Nat),v = .slice a ps.length cap∧(0<ps.length→∃g o,a=some ⟨g,o,none⟩∧g<w.heap.size∧∀(i:Nat) (h:i<ps.length),∃cv,w.cell? ⟨g,o+i*3,none⟩=some (.int .i64 ps[i].kind)∧w.cell? ⟨g,o+i*3+1,none⟩=some cv∧w.cell? ⟨g,o+i*3+2,none⟩=some (.string ps[i].text)∧QBd w cv ps[i].cells)
def QEf(w:World)(v:Value)(l:List FdT):Prop:=
 ∃(a:Option Addr) (cap:Nat),v = .slice a l.length cap∧(0<l.length→∃g o,a=some ⟨g,o,none⟩∧g<w.heap.size∧∀(i:Nat) (h:i<l.length),∃pv,w.cell? ⟨g,o+i*7,none⟩=some (.int .i64 l[i].2.kind)∧w.cell? ⟨g,o+i*7+1,none⟩=some (.string l[i].2.label)∧w.cell? ⟨g,o+i*7+2,none⟩=some (.string l[i].2.name)∧w.cell? ⟨g,o+i*7+3,none⟩=some pv∧
  w.cell? ⟨g,o+i*7+4,none⟩=some (.int .i64 l[i].1)∧w.cell? ⟨g,o+i*7+5,none⟩=some (.int .i64 l[i].2.line)∧w.cell? ⟨g,o+i*7+6,none⟩=some (.int .i64 l[i].2.col)∧QCd w pv l[i].2.parts)
section
variable{w w':World}{v:Value}
theorem QBd.new{cs:List QJb}(h:QBd w v cs)(k:Below w.heap.size w w'):QBd w' v cs:=by
 obtain⟨a,cap,rfl,h2⟩:=h
 refine⟨a,cap,rfl,fun h0=>?_⟩
 obtain⟨g,o,rfl,hg,hc⟩:=h2 h0
 exact⟨g,o,rfl,Nat.lt_of_lt_of_le hg k.size,fun i hi=>⟨(k.cell (p:=⟨g,o+i*2,none⟩) hg).trans (hc i hi).1,(k.cell (p:=⟨g,o+i*2+1,none⟩) hg).trans (hc i hi).2⟩⟩
theorem QCd.new{ps:List QRa}(h:QCd w v ps)(k:Below w.heap.size w w'):QCd w' v ps:=by
 obtain⟨a,cap,rfl,h2⟩:=h
 refine⟨a,cap,rfl,fun h0=>?_⟩
 obtain⟨g,o,rfl,hg,hc⟩:=h2 h0
 refine⟨g,o,rfl,Nat.lt_of_lt_of_le hg k.size,fun i hi=>?_⟩
 obtain⟨cv,c0,c1,c2,c3⟩:=hc i hi
 exact⟨cv,(k.cell (p:=⟨g,o+i*3,none⟩) hg).trans c0,(k.cell (p:=⟨g,o+i*3+1,none⟩) hg).trans c1,(k.cell (p:=⟨g,o+i*3+2,none⟩) hg).trans c2,c3.new k⟩
theorem QEf.new{l:List FdT}(h:QEf w v l)(k:Below w.heap.size w w'):QEf w' v l:=by
 obtain⟨a,cap,rfl,h2⟩:=h
 refine⟨a,cap,rfl,fun h0=>?_⟩
 obtain⟨g,o,rfl,hg,hc⟩:=h2 h0
 refine⟨g,o,rfl,Nat.lt_of_lt_of_le hg k.size,fun i hi=>?_⟩
 obtain⟨pv,c0,c1,c2,c3,c4,c5,c6,c7⟩:=hc i hi
 exact⟨pv,(k.cell (p:=⟨g,o+i*7,none⟩) hg).trans c0,(k.cell (p:=⟨g,o+i*7+1,none⟩) hg).trans c1,(k.cell (p:=⟨g,o+i*7+2,none⟩) hg).trans c2,(k.cell (p:=⟨g,o+i*7+3,none⟩) hg).trans c3,(k.cell (p:=⟨g,o+i*7+4,none⟩) hg).trans c4,(k.cell (p:=⟨g,o+i*7+5,none⟩) hg).trans c5,(k.cell (p:=⟨g,o+i*7+6,none⟩) hg).trans c6,c7.new k⟩
theorem QBd.slice{cs:List QJb}(h:QBd w v cs):∃a c,v = .slice a cs.length c:=by obtain⟨a,c,rfl,_⟩:=h;exact⟨a,c,rfl⟩
theorem QCd.slice{ps:List QRa}(h:QCd w v ps):∃a c,v = .slice a ps.length c:=by obtain⟨a,c,rfl,_⟩:=h;exact⟨a,c,rfl⟩
theorem QEf.slice{l:List FdT}(h:QEf w v l):∃a c,v = .slice a l.length c:=by obtain⟨a,c,rfl,_⟩:=h;exact⟨a,c,rfl⟩
theorem Qfa.in{base:Nat}{cs:List QJb}(h:Qfa w base v cs):QBd w v cs:=by
 obtain⟨a,c,rfl⟩:=h.slice
 refine⟨a,c,rfl,fun h0=>?_⟩
 obtain⟨g,cap,e,hg,hc⟩:=QDn h h0
 cases e
 exact⟨g,0,rfl,hg,fun i hi=>by rw[Nat.zero_add];exact hc i hi⟩
theorem Qha.in{base:Nat}{ps:List QRa}(h:Qha w base v ps):QCd w v ps:=by
 obtain⟨a,c,rfl⟩:=h.slice
 refine⟨a,c,rfl,fun h0=>?_⟩
 obtain⟨g,cap,e,hg,hc⟩:=Q8n h h0
 cases e
 refine⟨g,0,rfl,hg,fun i hi=>?_⟩
 obtain⟨cv,c0,c1,c2,c3⟩:=hc i hi
 rw[Nat.zero_add]
 exact⟨cv,c0,c1,c2,c3.in⟩
theorem Qsa.in{base:Nat}{l:List FdT}(h:Qsa w base v l):QEf w v l:=by
 obtain⟨a,c,rfl⟩:=h.slice
 refine⟨a,c,rfl,fun h0=>?_⟩
 obtain⟨g,cap,pv,e,hg,_⟩:=h.at 0 h0
 cases e
 refine⟨g,0,rfl,hg,fun i hi=>?_⟩
 obtain⟨g',cap',pv',e,_,_,c0,c1,c2,c3,c4,c5,c6,c7⟩:=h.at i hi
 cases e
 rw[Nat.zero_add]
 exact⟨pv',c0,c1,c2,c3,c4,c5,c6,c7.in⟩
end
theorem QTo{a b:ByteArray}(h:(a.toList == b.toList)=false):a≠b:=fun e=>by rw[e]at h;simp at h
theorem QSo{a b:ByteArray}(h:(a.toList == b.toList)=true):a=b:=by
 rw[beq_iff_eq,ByteArray.toList_eq,ByteArray.toList_eq]at h
 exact ByteArray.ext (Array.toList_inj.1 h)
def Qqq(ps qs:List QJb)(X Y:Nat)(c1 c2:Array Value)(W:World)(f:Nat)(x:Value)(w:World):Prop:=
 ∃i:Nat,x = .int .i64 i∧i≤ps.length∧ps.length≤i+f∧Hid (∀j (h1:j<ps.length) (h2:j<qs.length),j<i→ps[j]=qs[j])∧Qca w X c1 75∧Qca w Y c2 75∧Below W.heap.size W w
set_option maxRecDepth 100000 in
theorem QDg(p q:QRa)(v u:Value)(w:World)(h1:QBd w v p.cells)(h2:QBd w u q.cells)(KA:p.cells.length≤9223372036854775807) :
 Calls Tryz.prog 35 #[.agg #[.int .i64 p.kind,v,.string p.text],.agg #[.int .i64 q.kind,u,.string q.text]] w fun e w'=>∃b,e = .returned (.bool b)∧(b=true↔p=q)∧Below w.heap.size w w':=by
 obtain⟨pk,ps,pt⟩:=p
 obtain⟨qk,qs,qt⟩:=q
 simp only at h1 h2 KA ⊢
 obtain⟨a,cap,rfl⟩:=h1.slice
 obtain⟨a',cap',rfl⟩:=h2.slice
 have H1:=hid h1;have H2:=hid h2;clear h1 h2
 have hX:=(Qca.new w #[.int .i64 pk,.slice a ps.length cap,.string pt] 75).alloc (.cells #[.int .i64 qk,.slice a' qs.length cap',.string qt] 75)
 have hY:=Qca.newAt (w:=w.alloc (.cells #[.int .i64 pk,.slice a ps.length cap,.string pt] 75)) (B:=w.heap.size+1) (by simp) #[.int .i64 qk,.slice a' qs.length cap',.string qt] 75
 have gR:Below w.heap.size w ((w.alloc (.cells #[.int .i64 pk,.slice a ps.length cap,.string pt] 75)).alloc (.cells #[.int .i64 qk,.slice a' qs.length cap',.string qt] 75)):=((Below.refl _ _).alloc (Nat.le_refl _) _).alloc (by simp) _
 by_cases hpq:pk=qk
 ·have tu:(pk != qk)=false:=by simpa using hpq
  have iZ:=hid hpq
  clear hpq
  cases Ko:(pt.toList == qt.toList)with
  | false=>
   have Hn:=hid (QTo Ko)
   go_enter Tryz.func35,Tryz.ntmps35
   go_wp2_with fail
   go_ret
   exact⟨false,rfl,by simp[Hn.out],gR⟩
  | true=>
   have ag:=hid (QSo Ko)
   by_cases hl:ps.length=qs.length
   ·have hl':((ps.length:Int) != (qs.length:Int))=false:=by rw[hl];simp
    have HL:=hid hl
    clear hl
    go_enter Tryz.func35,Tryz.ntmps35
    go_wp2_with fail
    go_loopg [30] ps.length (fun f x wr=>Qqq ps qs w.heap.size (w.heap.size+1) #[.int .i64 pk,.slice a ps.length cap,.string pt] #[.int .i64 qk,.slice a' qs.length cap',.string qt] w f x wr)
    case atStart=>exact⟨0,rfl,by omega,by omega,hid (fun j _ _ h=>by omega),hX,hY,gR⟩
    case round=>
     clear hX hY gR
     obtain⟨i,rfl,G3,Kc,Ha,hX,hY,hb⟩:=hrel
     by_cases Hh:i<ps.length
     ·have kp:i<qs.length:=by rw[←HL.out];exact Hh
      have k1:(i:Int)<ps.length:=by omega
      have k2:(i:Int)<qs.length:=by omega
      have x2:=hX.cell 1
      have y2:=hY.cell 1
      obtain⟨_,_,e1,g1⟩:=H1.out.new hb
      cases e1
      obtain⟨g,o,rfl,hg,hc⟩:=g1 (by omega)
      obtain⟨c0,c1⟩:=hc i Hh
      obtain⟨_,_,e2,g2⟩:=H2.out.new hb
      cases e2
      obtain⟨g',o',rfl,hg',hd⟩:=g2 (by omega)
      obtain⟨d0,d1⟩:=hd i kp
      have HB:=hid hb
      have HX:=hid hX
      have HY:=hid hY
      have ar:=Ha
      clear hb hX hY Ha hc hd g1 g2
      by_cases JD:ps[i].value=qs[i].value
      ·have e1:(ps[i].value == qs[i].value)=true:=by rw[JD];simp
       cases e2:(ps[i].label.toList == qs[i].label.toList)with
       | true=>
        have vj:ps[i]=qs[i]:=by
         have h3:=QSo e2
         cases hx:ps[i];cases hy:qs[i]
         rw[hx,hy]at JD h3
         simp only at JD h3
         rw[JD,h3]
        have mN:=hid vj
        clear vj JD
        generalize ps[i].value=a1 at *
        generalize ps[i].label=a2 at *
        generalize qs[i].value=b1 at *
        generalize qs[i].label=b2 at *
        go_wp2_with fail
        go_quiet (fail)
        go_wp2_with fail
        go_roundg (gk-1)
        case measure=>omega
        case rel=>
         refine⟨i+1,by go_num,by omega,by omega,hid (fun j j1 j2 h=>?_),HX.out,HY.out,⟨HB.out.os,HB.out.tape,HB.out.output,HB.out.size,HB.out.block⟩⟩
         by_cases e:j=i
         ·subst e;exact mN.out
         ·exact ar.out j j1 j2 (by omega)
       | false=>
        have GO:=hid (show ps≠qs from fun e=>QTo e2 (by subst e;rfl))
        clear JD
        generalize ps[i].value=a1 at *
        generalize ps[i].label=a2 at *
        generalize qs[i].value=b1 at *
        generalize qs[i].label=b2 at *
        go_wp2_with fail
        go_quiet (fail)
        go_wp2_with fail
        go_ret
        exact⟨false,rfl,by simp[GO.out],⟨HB.out.os,HB.out.tape,HB.out.output,HB.out.size,HB.out.block⟩⟩
      ·have e1:(ps[i].value == qs[i].value)=false:=by rw[beq_eq_false_iff_ne];exact JD
       have GO:=hid (show ps≠qs from fun e=>JD (by subst e;rfl))
       clear JD
       generalize ps[i].value=a1 at *
       generalize ps[i].label=a2 at *
       generalize qs[i].value=b1 at *
       generalize qs[i].label=b2 at *
       go_wp2_with fail
       go_quiet (fail)
       go_wp2_with fail
       go_ret
       exact⟨false,rfl,by simp[GO.out],⟨HB.out.os,HB.out.tape,HB.out.output,HB.out.size,HB.out.block⟩⟩
     ·obtain rfl:i=ps.length:=by omega
      have GO:=hid (show ps=qs from List.ext_getElem HL.out (fun j j1 j2=>Ha.out j j1 j2 j1))
      have HB:=hid hb
      clear hb hX hY Ha
      go_wp2_with fail
      go_ret
      exact⟨true,rfl,by simp[iZ.out,GO.out,ag.out],HB.out⟩
   ·have hl':((ps.length:Int) != (qs.length:Int))=true:=by rw[bne_iff_ne];omega
    have GO:=hid (show ps≠qs from fun e=>hl (by rw[e]))
    clear hl
    go_enter Tryz.func35,Tryz.ntmps35
    go_wp2_with fail
    go_ret
    exact⟨false,rfl,by simp[GO.out],gR⟩
 ·have tu:(pk != qk)=true:=by simpa using hpq
  have iZ:=hid hpq
  clear hpq
  go_enter Tryz.func35,Tryz.ntmps35
  go_wp2_with fail
  go_ret
  exact⟨false,rfl,by simp[iZ.out],gR⟩
theorem Q2f(a b:ByteArray):(a.toList == b.toList)=decide (a=b):=by
 by_cases h:a=b
 ·subst h;simp
 ·rw[decide_eq_false h,beq_eq_false_iff_ne]
  intro e
  rw[ByteArray.toList_eq,ByteArray.toList_eq]at e
  exact h (ByteArray.ext (Array.toList_inj.1 e))
set_option maxRecDepth 100000 in
theorem Q4p(v u:Value)(l1 l2:List FdT)(w:World)(h1:QEf w v l1)(h2:QEf w u l2)(KA:l1.length≤9223372036854775807)(kT:∀x∈l1,x.2.parts.length≤9223372036854775807∧∀p∈x.2.parts,p.cells.length≤9223372036854775807) :
 Calls Tryz.prog 15 #[v,u] w fun e w'=>∃b,e = .returned (.bool b)∧(b=true↔l1=l2)∧Below w.heap.size w w':=by
 obtain⟨a,cap,rfl⟩:=h1.slice
 obtain⟨a',cap',rfl⟩:=h2.slice
 have H1:=hid h1;have H2:=hid h2
 have Ks:=hid kT
 clear h1 h2 kT
 by_cases hl:l1.length=l2.length
 ·have hl':((l1.length:Int) != (l2.length:Int))=false:=by rw[bne_eq_false_iff_eq];omega
  have HL:=hid hl
  have gR:=hid (Below.refl w.heap.size w)
  clear hl
  go_enter Tryz.func15,Tryz.ntmps15
  go_wp2_with fail
  go_loopg [16] l1.length (fun f x wr=>∃i:Nat,x = .int .i64 i∧i≤l1.length∧l1.length≤i+f∧Hid (∀j (h1:j<l1.length) (h2:j<l2.length),j<i→l1[j]=l2[j])∧Below w.heap.size w wr)
  case atStart=>exact⟨0,rfl,by omega,by omega,hid (fun j _ _ h=>by omega),gR.out⟩
  case round=>
   obtain⟨io,rfl,G3,Kc,Ha,hb⟩:=hrel
   obtain⟨go,rfl⟩:∃x:Nat,x=gk:=⟨_,rfl⟩
   obtain⟨wo,rfl⟩:∃x:World,x=wr:=⟨_,rfl⟩
   by_cases Hh:io<l1.length
   ·have kp:io<l2.length:=by rw[←HL.out];exact Hh
    have k1:(io:Int)<l1.length:=by omega
    have k2:(io:Int)<l2.length:=by omega
    obtain⟨_,_,e1,g1⟩:=H1.out.new hb
    cases e1
    obtain⟨g,o,rfl,hg,hc⟩:=g1 (by omega)
    obtain⟨xv,c0,c1,c2,c3,c4,c5,c6,pu⟩:=hc io Hh
    obtain⟨_,_,e2,g2⟩:=H2.out.new hb
    cases e2
    obtain⟨g',o',rfl,hg',hd⟩:=g2 (by omega)
    obtain⟨yv,d0,d1,d2,d3,d4,d5,d6,pw⟩:=hd io kp
    obtain⟨vN,cz⟩:=Ks.out l1[io] (List.getElem_mem Hh)
    have iP:=hid (show ∀x y:FdT,x=l1[io]→y=l2[io]→x=y→∀j (h1:j<l1.length) (h2:j<l2.length),j<io+1→l1[j]=l2[j]from fun x y ex ey exy j h1 h2 hj=>by
     by_cases e:j=io
     ·subst e;rw[←ex,←ey,exy]
     ·exact Ha.out j h1 h2 (by omega))
    have gU:=hid (show l1=l2→l1[io]=l2[io]from fun e=>by subst e;rfl)
    obtain⟨x,hx⟩:∃x,x=l1[io]:=⟨_,rfl⟩
    obtain⟨y,hy⟩:∃y,y=l2[io]:=⟨_,rfl⟩
    have tQ:=hid (fun e=>iP.out x y hx hy e)
    rw[←hx]at c0 c1 c2 c4 c5 c6 pu vN cz gU
    rw[←hy]at d0 d1 d2 d4 d5 d6 pw gU
    clear iP hx hy hc hd g1 g2 Ha
    obtain⟨xf,xk,xl,xn,xps,xln,xcl⟩:=x
    obtain⟨yf,yk,yl,yn,yps,yln,ycl⟩:=y
    simp only at c0 c1 c2 c4 c5 c6 d0 d1 d2 d4 d5 d6 pu pw vN cz
    obtain⟨xa,xc,rfl⟩:=pu.slice
    obtain⟨ya,yc,rfl⟩:=pw.slice
    have MB:=hid (show l1=l2→xk=yk∧xl=yl∧xn=yn∧xf=yf∧xln=yln∧xcl=ycl∧xps.length=yps.length from fun e=>by
     have h9:=gU.out e
     injection h9 with h8 h9
     injection h9 with q1 q2 q3 q4 q5 q6
     exact⟨q1,q2,q3,h8,q5,q6,by rw[q4]⟩)
    have iZ:=hid (show l1=l2→xps=yps from fun e=>by
     have h9:=gU.out e
     injection h9 with h8 h9
     injection h9)
    have iR:=hid (show xk=yk→xl=yl→xn=yn→xf=yf→xln=yln→xcl=ycl→xps=yps→∀j (h1:j<l1.length) (h2:j<l2.length),j<io+1→l1[j]=l2[j]from fun a1 a2 a3 a4 a5 a6 a7=>tQ.out (by subst a1 a2 a3 a4 a5 a6 a7;rfl))
    have OKL:=hid cz
    have PX:=hid (show ∀wz,Below wo.heap.size wo wz→QCd wz (.slice xa xps.length xc) xps from fun wz hz=>pu.new hz)
    have PY:=hid (show ∀wz,Below wo.heap.size wo wz→QCd wz (.slice ya yps.length yc) yps from fun wz hz=>pw.new hz)
    have J5:=hid hb
    clear gU tQ cz pu pw hb
    go_upto_region 6 with fail
    go_region
    ·have HX:=hid (((Qca.new wo #[.int .i64 xk,.string xl,.string xn,.slice xa xps.length xc,.int .i64 xf,.int .i64 xln,.int .i64 xcl] 34).alloc (Obj.cells #[.int .i64 yk,.string yl,.string yn,.slice ya yps.length yc,.int .i64 yf,.int .i64 yln,.int .i64 ycl] 34)).drew)
     have HY:=hid (((Qca.newAt (w:=wo.alloc (Obj.cells #[.int .i64 xk,.string xl,.string xn,.slice xa xps.length xc,.int .i64 xf,.int .i64 xln,.int .i64 xcl] 34)) (B:=wo.heap.size+1) (by simp) #[.int .i64 yk,.string yl,.string yn,.slice ya yps.length yc,.int .i64 yf,.int .i64 yln,.int .i64 ycl] 34)).drew)
     have mo:=hid ((((Below.refl wo.heap.size wo).alloc (Nat.le_refl _) (.cells #[.int .i64 xk,.string xl,.string xn,.slice xa xps.length xc,.int .i64 xf,.int .i64 xln,.int .i64 xcl] 34)).alloc (by simp) (.cells #[.int .i64 yk,.string yl,.string yn,.slice ya yps.length yc,.int .i64 yf,.int .i64 yln,.int .i64 ycl] 34)).drew)
     have Mh:=hid (J5.out.trans (mo.out.mono J5.out.size))
     clear c0 c1 c2 c3 c4 c5 c6 d0 d1 d2 d3 d4 d5 d6
     generalize ((wo.alloc (.cells #[.int .i64 xk,.string xl,.string xn,.slice xa xps.length xc,.int .i64 xf,.int .i64 xln,.int .i64 xcl] 34)).alloc (.cells #[.int .i64 yk,.string yl,.string yn,.slice ya yps.length yc,.int .i64 yf,.int .i64 yln,.int .i64 ycl] 34)).drew=w1 at *
     obtain⟨c0,c1,c2,c3,c4,c5,c6⟩:=Qna HX.out
     obtain⟨d0,d1,d2,d3,d4,d5,d6⟩:=Qna HY.out
     have pQ:=HX.out.lt
     have pS:=HY.out.lt
     by_cases hk:xk=yk
     ·have hk':(xk != yk)=false:=by rw[bne_eq_false_iff_eq];exact hk
      have rA:=hid hk
      clear hk
      by_cases hl:xl=yl
      ·have hl':(xl.toList == yl.toList)=true:=by rw[hl];simp
       have rD:=hid hl
       clear hl
       by_cases hn:xn=yn
       ·have hn':(xn.toList == yn.toList)=true:=by rw[hn];simp
        have iV:=hid hn
        clear hn
        by_cases hf:xf=yf
        ·have hf':(xf == yf)=true:=by rw[beq_iff_eq];exact hf
         have ro:=hid hf
         clear hf
         by_cases Kl:xln=yln
         ·have ie:(xln == yln)=true:=by rw[beq_iff_eq];exact Kl
          have eI:=hid Kl
          clear Kl
          by_cases ke:xcl=ycl
          ·have fS:(xcl == ycl)=true:=by rw[beq_iff_eq];exact ke
           have eo:=hid ke
           clear ke
           by_cases GO:xps.length=yps.length
           ·have iu:((xps.length:Int) != (yps.length:Int))=false:=by rw[bne_eq_false_iff_eq];omega
            have aG:=hid GO
            clear GO
            go_wp2_with fail
            go_loopg [65] xps.length (fun f x wx=>∃k:Nat,x = .int .i64 k∧k≤xps.length∧xps.length≤k+f∧Hid (∀j (h1:j<xps.length) (h2:j<yps.length),j<k→xps[j]=yps[j])∧Qca wx wo.heap.size #[.int .i64 xk,.string xl,.string xn,.slice xa xps.length xc,.int .i64 xf,.int .i64 xln,.int .i64 xcl] 34∧Qca wx (wo.heap.size+1) #[.int .i64 yk,.string yl,.string yn,.slice ya yps.length yc,.int .i64 yf,.int .i64 yln,.int .i64 ycl] 34∧Below wo.heap.size wo wx)
            case atStart=>exact⟨0,rfl,by omega,by omega,hid (fun j _ _ h=>by omega),HX.out,HY.out,⟨mo.out.os,mo.out.tape,mo.out.output,mo.out.size,mo.out.block⟩⟩
            case round=>
             clear c0 c1 c2 c3 c4 c5 c6 d0 d1 d2 d3 d4 d5 d6
             obtain⟨k,rfl,Ht,Hp,KG,JB,be,Ho⟩:=hrel
             have xN:=JB.cell 3
             have xO:=be.cell 3
             by_cases hklt:k<xps.length
             ·have bH:k<yps.length:=by have:=aG.out;omega
              have m1:(k:Int)<xps.length:=by omega
              have m2:(k:Int)<yps.length:=by omega
              obtain⟨_,_,e1,g1⟩:=PX.out wr Ho
              cases e1
              obtain⟨pg,po,rfl,yo,hc⟩:=g1 (by omega)
              obtain⟨cv,p0,p1,p2,p3⟩:=hc k hklt
              obtain⟨_,_,e2,g2⟩:=PY.out wr Ho
              cases e2
              obtain⟨qg,qo,rfl,yp,hd⟩:=g2 (by omega)
              obtain⟨du,q0,q1,q2,q3⟩:=hd k bH
              have eU:=hid (fun(wz:World) (hz:Below wr.heap.size wr wz)=>QDg xps[k] yps[k] cv du wz (p3.new hz) (q3.new hz) (OKL.out _ (List.getElem_mem hklt)))
              have sf:=hid JB
              have si:=hid be
              have GI:=hid Ho
              have pQ:=JB.lt
              have pS:=be.lt
              obtain⟨ca,cc,e3⟩:=p3.slice
              obtain⟨da,dc,e4⟩:=q3.slice
              have mN:=hid (show xps[k]≠yps[k]→l1≠l2 from fun hn e=>hn (by have h9:=(iZ.out e);subst h9;rfl))
              have lE:=hid (show ∀x y:QRa,x=xps[k]→y=yps[k]→x=y→∀j (h1:j<xps.length) (h2:j<yps.length),j<k+1→xps[j]=yps[j]from fun x y ex ey exy j h1 h2 hj=>by
               by_cases e:j=k
               ·subst e;rw[←ex,←ey,exy]
               ·exact KG.out j h1 h2 (by omega))
              have cb:∃x,x=xps[k]:=⟨_,rfl⟩
              obtain⟨xq,cb⟩:=cb
              have J4:∃y,y=yps[k]:=⟨_,rfl⟩
              obtain⟨yq,J4⟩:=J4
              have iP:=hid (fun e=>lE.out xq yq cb J4 e)
              rw[←cb]at p0 p2 e3 eU mN
              rw[←J4]at q0 q2 e4 eU mN
              clear lE cb J4 JB be p3 q3 hc hd g1 g2 KG
              obtain⟨xk3,xcs,xt3⟩:=xq
              obtain⟨yk3,ycs,yt3⟩:=yq
              simp only at p0 p2 q0 q2 e3 e4
              subst e3 e4
              go_upto_region 12 with fail
              go_region_with (go_at_call 35;refine(by exact eU.out _ ((Below.refl _ _).drew):Calls _ _ _ _ _).mono ?_;rintro e w2 ⟨b,rfl,cX,gm⟩)
              all_goals
               have mR:Below wr.heap.size wr w2:=((Below.refl wr.heap.size wr).drew).trans gm
               have Mg:=hid (GI.out.trans (mR.mono GI.out.size))
               have Jw:=hid (J5.out.trans (Mg.out.mono J5.out.size))
               have se:=hid (sf.out.keeps (Qaa.of_fresh mR (fun _=>False)) (fun e=>e))
               have sh:=hid (si.out.keeps (Qaa.of_fresh mR (fun _=>False)) (fun e=>e))
               clear gm mR
               cases b with
               | true=>
                have iR:=hid (iP.out (cX.1 rfl))
                clear cX
                go_wp2_with fail
                go_roundg (gk-1)
                case measure=>omega
                case rel=>exact⟨k+1,by go_num,by omega,by omega,hid iR.out,se.out,sh.out,⟨Mg.out.os,Mg.out.tape,Mg.out.output,Mg.out.size,Mg.out.block⟩⟩
               | false=>
                have Hn:=hid (mN.out (fun e=>by have:=cX.2 e;cases this))
                clear cX
                go_wp2_with fail
                go_ret
                exact⟨false,rfl,by simp[Hn.out],Jw.out⟩
             ·obtain rfl:k=xps.length:=by omega
              have tt:=hid (show xps=yps from List.ext_getElem aG.out (fun j j1 j2=>KG.out j j1 j2 j1))
              have gU:=hid (iR.out rA.out rD.out iV.out ro.out eI.out eo.out tt.out)
              have GI:=hid (J5.out.trans (Ho.mono J5.out.size))
              clear JB be KG Ho
              go_wp2_with fail
              go_roundg (go-1)
              case measure=>omega
              case rel=>exact⟨io+1,by go_num,by omega,by omega,hid gU.out,⟨GI.out.os,GI.out.tape,GI.out.output,GI.out.size,GI.out.block⟩⟩
           ·have iu:((xps.length:Int) != (yps.length:Int))=true:=by rw[bne_iff_ne];omega
            have Hn:=hid (show l1≠l2 from fun e=>GO (MB.out e).2.2.2.2.2.2)
            clear GO
            go_wp2_with fail
            all_goals
             go_ret
             exact⟨false,rfl,by simp[Hn.out],Mh.out⟩
          ·have fS:(xcl == ycl)=false:=by rw[beq_eq_false_iff_ne];exact ke
           have Hn:=hid (show l1≠l2 from fun e=>ke (MB.out e).2.2.2.2.2.1)
           clear ke
           go_wp2_with fail
           all_goals
            go_ret
            exact⟨false,rfl,by simp[Hn.out],Mh.out⟩
         ·have ie:(xln == yln)=false:=by rw[beq_eq_false_iff_ne];exact Kl
          have Hn:=hid (show l1≠l2 from fun e=>Kl (MB.out e).2.2.2.2.1)
          clear Kl
          go_wp2_with fail
          all_goals
           go_ret
           exact⟨false,rfl,by simp[Hn.out],Mh.out⟩
        ·have hf':(xf == yf)=false:=by rw[beq_eq_false_iff_ne];exact hf
         have Hn:=hid (show l1≠l2 from fun e=>hf (MB.out e).2.2.2.1)
         clear hf
         go_wp2_with fail
         all_goals
          go_ret
          exact⟨false,rfl,by simp[Hn.out],Mh.out⟩
       ·have hn':(xn.toList == yn.toList)=false:=by rw[Q2f];exact decide_eq_false hn
        have Hn:=hid (show l1≠l2 from fun e=>hn (MB.out e).2.2.1)
        clear hn
        go_wp2_with fail
        all_goals
         go_ret
         exact⟨false,rfl,by simp[Hn.out],Mh.out⟩
      ·have hl':(xl.toList == yl.toList)=false:=by rw[Q2f];exact decide_eq_false hl
       have Hn:=hid (show l1≠l2 from fun e=>hl (MB.out e).2.1)
       clear hl
       go_wp2_with fail
       all_goals
        go_ret
        exact⟨false,rfl,by simp[Hn.out],Mh.out⟩
     ·have hk':(xk != yk)=true:=by rw[bne_iff_ne];exact hk
      have Hn:=hid (show l1≠l2 from fun e=>hk (MB.out e).1)
      clear hk
      go_wp2_with fail
      all_goals
       go_ret
       exact⟨false,rfl,by simp[Hn.out],Mh.out⟩
    ·have HX:=hid (((Qca.newAt (w:=wo.alloc (Obj.cells #[.int .i64 yk,.string yl,.string yn,.slice ya yps.length yc,.int .i64 yf,.int .i64 yln,.int .i64 ycl] 34)) (B:=wo.heap.size+1) (by simp) #[.int .i64 xk,.string xl,.string xn,.slice xa xps.length xc,.int .i64 xf,.int .i64 xln,.int .i64 xcl] 34)).drew)
     have HY:=hid (((Qca.new wo #[.int .i64 yk,.string yl,.string yn,.slice ya yps.length yc,.int .i64 yf,.int .i64 yln,.int .i64 ycl] 34).alloc (Obj.cells #[.int .i64 xk,.string xl,.string xn,.slice xa xps.length xc,.int .i64 xf,.int .i64 xln,.int .i64 xcl] 34)).drew)
     have mo:=hid ((((Below.refl wo.heap.size wo).alloc (Nat.le_refl _) (.cells #[.int .i64 yk,.string yl,.string yn,.slice ya yps.length yc,.int .i64 yf,.int .i64 yln,.int .i64 ycl] 34)).alloc (by simp) (.cells #[.int .i64 xk,.string xl,.string xn,.slice xa xps.length xc,.int .i64 xf,.int .i64 xln,.int .i64 xcl] 34)).drew)
     have Mh:=hid (J5.out.trans (mo.out.mono J5.out.size))
     clear c0 c1 c2 c3 c4 c5 c6 d0 d1 d2 d3 d4 d5 d6
     generalize ((wo.alloc (.cells #[.int .i64 yk,.string yl,.string yn,.slice ya yps.length yc,.int .i64 yf,.int .i64 yln,.int .i64 ycl] 34)).alloc (.cells #[.int .i64 xk,.string xl,.string xn,.slice xa xps.length xc,.int .i64 xf,.int .i64 xln,.int .i64 xcl] 34)).drew=w1 at *
     obtain⟨c0,c1,c2,c3,c4,c5,c6⟩:=Qna HX.out
     obtain⟨d0,d1,d2,d3,d4,d5,d6⟩:=Qna HY.out
     have pQ:=HX.out.lt
     have pS:=HY.out.lt
     by_cases hk:xk=yk
     ·have hk':(xk != yk)=false:=by rw[bne_eq_false_iff_eq];exact hk
      have rA:=hid hk
      clear hk
      by_cases hl:xl=yl
      ·have hl':(xl.toList == yl.toList)=true:=by rw[hl];simp
       have rD:=hid hl
       clear hl
       by_cases hn:xn=yn
       ·have hn':(xn.toList == yn.toList)=true:=by rw[hn];simp
        have iV:=hid hn
        clear hn
        by_cases hf:xf=yf
        ·have hf':(xf == yf)=true:=by rw[beq_iff_eq];exact hf
         have ro:=hid hf
         clear hf
         by_cases Kl:xln=yln
         ·have ie:(xln == yln)=true:=by rw[beq_iff_eq];exact Kl
          have eI:=hid Kl
          clear Kl
          by_cases ke:xcl=ycl
          ·have fS:(xcl == ycl)=true:=by rw[beq_iff_eq];exact ke
           have eo:=hid ke
           clear ke
           by_cases GO:xps.length=yps.length
           ·have iu:((xps.length:Int) != (yps.length:Int))=false:=by rw[bne_eq_false_iff_eq];omega
            have aG:=hid GO
            clear GO
            go_wp2_with fail
            go_loopg [65] xps.length (fun f x wx=>∃k:Nat,x = .int .i64 k∧k≤xps.length∧xps.length≤k+f∧Hid (∀j (h1:j<xps.length) (h2:j<yps.length),j<k→xps[j]=yps[j])∧Qca wx (wo.heap.size+1) #[.int .i64 xk,.string xl,.string xn,.slice xa xps.length xc,.int .i64 xf,.int .i64 xln,.int .i64 xcl] 34∧Qca wx wo.heap.size #[.int .i64 yk,.string yl,.string yn,.slice ya yps.length yc,.int .i64 yf,.int .i64 yln,.int .i64 ycl] 34∧Below wo.heap.size wo wx)
            case atStart=>exact⟨0,rfl,by omega,by omega,hid (fun j _ _ h=>by omega),HX.out,HY.out,⟨mo.out.os,mo.out.tape,mo.out.output,mo.out.size,mo.out.block⟩⟩
            case round=>
             clear c0 c1 c2 c3 c4 c5 c6 d0 d1 d2 d3 d4 d5 d6
             obtain⟨k,rfl,Ht,Hp,KG,JB,be,Ho⟩:=hrel
             have xN:=JB.cell 3
             have xO:=be.cell 3
             by_cases hklt:k<xps.length
             ·have bH:k<yps.length:=by have:=aG.out;omega
              have m1:(k:Int)<xps.length:=by omega
              have m2:(k:Int)<yps.length:=by omega
              obtain⟨_,_,e1,g1⟩:=PX.out wr Ho
              cases e1
              obtain⟨pg,po,rfl,yo,hc⟩:=g1 (by omega)
              obtain⟨cv,p0,p1,p2,p3⟩:=hc k hklt
              obtain⟨_,_,e2,g2⟩:=PY.out wr Ho
              cases e2
              obtain⟨qg,qo,rfl,yp,hd⟩:=g2 (by omega)
              obtain⟨du,q0,q1,q2,q3⟩:=hd k bH
              have eU:=hid (fun(wz:World) (hz:Below wr.heap.size wr wz)=>QDg xps[k] yps[k] cv du wz (p3.new hz) (q3.new hz) (OKL.out _ (List.getElem_mem hklt)))
              have sf:=hid JB
              have si:=hid be
              have GI:=hid Ho
              have pQ:=JB.lt
              have pS:=be.lt
              obtain⟨ca,cc,e3⟩:=p3.slice
              obtain⟨da,dc,e4⟩:=q3.slice
              have mN:=hid (show xps[k]≠yps[k]→l1≠l2 from fun hn e=>hn (by have h9:=(iZ.out e);subst h9;rfl))
              have lE:=hid (show ∀x y:QRa,x=xps[k]→y=yps[k]→x=y→∀j (h1:j<xps.length) (h2:j<yps.length),j<k+1→xps[j]=yps[j]from fun x y ex ey exy j h1 h2 hj=>by
               by_cases e:j=k
               ·subst e;rw[←ex,←ey,exy]
               ·exact KG.out j h1 h2 (by omega))
              have cb:∃x,x=xps[k]:=⟨_,rfl⟩
              obtain⟨xq,cb⟩:=cb
              have J4:∃y,y=yps[k]:=⟨_,rfl⟩
              obtain⟨yq,J4⟩:=J4
              have iP:=hid (fun e=>lE.out xq yq cb J4 e)
              rw[←cb]at p0 p2 e3 eU mN
              rw[←J4]at q0 q2 e4 eU mN
              clear lE cb J4 JB be p3 q3 hc hd g1 g2 KG
              obtain⟨xk3,xcs,xt3⟩:=xq
              obtain⟨yk3,ycs,yt3⟩:=yq
              simp only at p0 p2 q0 q2 e3 e4
              subst e3 e4
              go_upto_region 12 with fail
              go_region_with (go_at_call 35;refine(by exact eU.out _ ((Below.refl _ _).drew):Calls _ _ _ _ _).mono ?_;rintro e w2 ⟨b,rfl,cX,gm⟩)
              all_goals
               have mR:Below wr.heap.size wr w2:=((Below.refl wr.heap.size wr).drew).trans gm
               have Mg:=hid (GI.out.trans (mR.mono GI.out.size))
               have Jw:=hid (J5.out.trans (Mg.out.mono J5.out.size))
               have se:=hid (sf.out.keeps (Qaa.of_fresh mR (fun _=>False)) (fun e=>e))
               have sh:=hid (si.out.keeps (Qaa.of_fresh mR (fun _=>False)) (fun e=>e))
               clear gm mR
               cases b with
               | true=>
                have iR:=hid (iP.out (cX.1 rfl))
                clear cX
                go_wp2_with fail
                go_roundg (gk-1)
                case measure=>omega
                case rel=>exact⟨k+1,by go_num,by omega,by omega,hid iR.out,se.out,sh.out,⟨Mg.out.os,Mg.out.tape,Mg.out.output,Mg.out.size,Mg.out.block⟩⟩
               | false=>
                have Hn:=hid (mN.out (fun e=>by have:=cX.2 e;cases this))
                clear cX
                go_wp2_with fail
                go_ret
                exact⟨false,rfl,by simp[Hn.out],Jw.out⟩
             ·obtain rfl:k=xps.length:=by omega
              have tt:=hid (show xps=yps from List.ext_getElem aG.out (fun j j1 j2=>KG.out j j1 j2 j1))
              have gU:=hid (iR.out rA.out rD.out iV.out ro.out eI.out eo.out tt.out)
              have GI:=hid (J5.out.trans (Ho.mono J5.out.size))
              clear JB be KG Ho
              go_wp2_with fail
              go_roundg (go-1)
              case measure=>omega
              case rel=>exact⟨io+1,by go_num,by omega,by omega,hid gU.out,⟨GI.out.os,GI.out.tape,GI.out.output,GI.out.size,GI.out.block⟩⟩
           ·have iu:((xps.length:Int) != (yps.length:Int))=true:=by rw[bne_iff_ne];omega
            have Hn:=hid (show l1≠l2 from fun e=>GO (MB.out e).2.2.2.2.2.2)
            clear GO
            go_wp2_with fail
            all_goals
             go_ret
             exact⟨false,rfl,by simp[Hn.out],Mh.out⟩
          ·have fS:(xcl == ycl)=false:=by rw[beq_eq_false_iff_ne];exact ke
           have Hn:=hid (show l1≠l2 from fun e=>ke (MB.out e).2.2.2.2.2.1)
           clear ke
           go_wp2_with fail
           all_goals
            go_ret
            exact⟨false,rfl,by simp[Hn.out],Mh.out⟩
         ·have ie:(xln == yln)=false:=by rw[beq_eq_false_iff_ne];exact Kl
          have Hn:=hid (show l1≠l2 from fun e=>Kl (MB.out e).2.2.2.2.1)
          clear Kl
          go_wp2_with fail
          all_goals
           go_ret
           exact⟨false,rfl,by simp[Hn.out],Mh.out⟩
        ·have hf':(xf == yf)=false:=by rw[beq_eq_false_iff_ne];exact hf
         have Hn:=hid (show l1≠l2 from fun e=>hf (MB.out e).2.2.2.1)
         clear hf
         go_wp2_with fail
         all_goals
          go_ret
          exact⟨false,rfl,by simp[Hn.out],Mh.out⟩
       ·have hn':(xn.toList == yn.toList)=false:=by rw[Q2f];exact decide_eq_false hn
        have Hn:=hid (show l1≠l2 from fun e=>hn (MB.out e).2.2.1)
        clear hn
        go_wp2_with fail
        all_goals
         go_ret
         exact⟨false,rfl,by simp[Hn.out],Mh.out⟩
      ·have hl':(xl.toList == yl.toList)=false:=by rw[Q2f];exact decide_eq_false hl
       have Hn:=hid (show l1≠l2 from fun e=>hl (MB.out e).2.1)
       clear hl
       go_wp2_with fail
       all_goals
        go_ret
        exact⟨false,rfl,by simp[Hn.out],Mh.out⟩
     ·have hk':(xk != yk)=true:=by rw[bne_iff_ne];exact hk
      have Hn:=hid (show l1≠l2 from fun e=>hk (MB.out e).1)
      clear hk
      go_wp2_with fail
      all_goals
       go_ret
       exact⟨false,rfl,by simp[Hn.out],Mh.out⟩
   ·obtain rfl:io=l1.length:=by omega
    have GO:=hid (show l1=l2 from List.ext_getElem HL.out (fun j j1 j2=>Ha.out j j1 j2 j1))
    have HB:=hid hb
    clear hb Ha
    go_wp2_with fail
    go_ret
    exact⟨true,rfl,by simp[GO.out],⟨HB.out.os,HB.out.tape,HB.out.output,HB.out.size,HB.out.block⟩⟩
 ·have hl':((l1.length:Int) != (l2.length:Int))=true:=by rw[bne_iff_ne];omega
  have Hn:=hid (show l1≠l2 from fun e=>hl (by rw[e]))
  clear hl
  go_enter Tryz.func15,Tryz.ntmps15
  go_wp2_with fail
  go_ret
  exact⟨false,rfl,by simp[Hn.out],Below.refl _ _⟩
end Go.Proofs.YtofhcgbihonckaaGreat
