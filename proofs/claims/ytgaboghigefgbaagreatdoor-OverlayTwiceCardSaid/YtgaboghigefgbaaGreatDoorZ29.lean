/- bringupgrow.Overlay: the world while it grows. | overlay.value: no parts; one part of one cell. The text of awake of bringuplaw13. | overlay's reader: edit (printed by gova.py). | overlay's reader: region 14 of edit (printed by gova.py). -/
import Derived.Test.YtgaboghigefgbaaGreatDoorZ22
import Derived.Test.YtgaboghigefgbaaGreatDoorZ27
import Derived.Test.YtgaboghigefgbaaGreatDoorZ28
import Derived.Test.YtgaboghigefgbaaGreatDoorZ17
import Derived.Test.YtgaboghigefgbaaGreatDoorZ19
import Derived.Test.YtgaboghigefgbaaGreatDoorZ21
import Derived.Test.YtgaboghigefgbaaGreatDoorZ32
import Derived.BigQuiet
import Derived.Deep.DeepCutAuto
import Derived.Deep.CutBlock
import Derived.StillTailTactics
import Derived.IntWalk
import Derived.Test.YtgaboghigefgbaaGreatDoorZ2
set_option linter.all false
set_option maxHeartbeats 8000000
namespace Go.Proofs.YtgaboghigefgbaaGreatDoor
open Go.Lib (hid)
open Go.RowKit
def QHc(l:List ByteArray):List Value:=l.map Value.string
theorem Qnq(l:List ByteArray):(QHc l).length=l.length*1:=by simp[QHc]
structure GoS(B b:Nat)(w wr:World)(tv:Value)(nm:ByteArray)(pv ev:Value)(ps:List ByteArray)(es:List Qja)(i:Nat):Prop where
 hx:Holds wr w.heap.size #[tv] 27
 hr:Holds wr (w.heap.size+1) #[.string ⟨#[]⟩,.slice none 0 0] 31
 ho:Holds wr (w.heap.size+1+1) #[.string nm,ev] 31
 hp:wr.ownsRow w.heap.size 9 1 pv ps.length (QHc ps)
 he:wr.ownsRow w.heap.size 39 4 ev es.length (Qqa es)
 hnil:es=[]→ev = .slice none 0 0
 hT:Qtc B wr b
 hK:Qaa (· = b) w wr
 hb:b<w.heap.size
 hpos:0<ps.length
 hlen:ps.length+i≤200
 hsz:∀s∈ps,s.size+100*i≤10000
 hes:QAe es
 hel:es.length+i≤100
section
variable{B b:Nat}{w wr w':World}{tv:Value}{nm:ByteArray}{pv ev:Value}{ps:List ByteArray}{es:List Qja}{i:Nat}
theorem GoS.size(h:GoS B b w wr tv nm pv ev ps es i):w.heap.size≤wr.heap.size:=h.hK.size
theorem GoS.turn(h:GoS B b w wr tv nm pv ev ps es i)(hT':Qtc B w' b)(k:Qaa (· = b) wr w'):GoS B b w w' tv nm pv ev ps es i:=by
 have hb:=h.hb
 exact⟨h.hx.keeps k (by omega),h.hr.keeps k (by omega),h.ho.keeps k (by omega),Qca h.hp k (fun g hg e=>by have:=(h.hp.lt g hg).1;omega),Qca h.he k (fun g hg e=>by have:=(h.he.lt g hg).1;omega),h.hnil,hT',h.hK.trans k (fun _ _ e=>e),h.hb,h.hpos,h.hlen,h.hsz,h.hes,h.hel⟩
theorem GoS.fresh(h:GoS B b w wr tv nm pv ev ps es i)(k:Below wr.heap.size wr w'):GoS B b w w' tv nm pv ev ps es i:=
 h.turn (h.hT.keeps (Qaa.of_fresh k (fun _=>False)) (fun _ e=>e.elim)) (Qaa.of_fresh k (· = b))
theorem GoS.alloc(h:GoS B b w wr tv nm pv ev ps es i)(o:Obj):GoS B b w (wr.alloc o) tv nm pv ev ps es i:=h.fresh ((Below.refl _ _).alloc (Nat.le_refl _) _)
theorem GoS.other(h:GoS B b w wr tv nm pv ev ps es i){g o:Nat}{cs:Array Value}{t:TypeId}(hH:Holds wr g cs t)(hg:w.heap.size≤g)(h1:t≠27)(h2:t≠31)(h3:t≠9)(h4:t≠39∨ev.ownBlock≠some g)(x:Value):GoS B b w (wr.setCell ⟨g,o,none⟩ x) tv nm pv ev ps es i:=by
 have hb:=h.hb
 have ne:∀{c:Nat} {ds:Array Value} {u:TypeId},Holds wr c ds u→t≠u→¬g=c:=fun hD Hm e=>Hm (by
  subst e
  have:=hH.symm.trans hD
  simp only[Option.some.injEq,Obj.cells.injEq]at this
  exact this.2.1)
 have k:Qaa (· = g) wr (wr.setCell ⟨g,o,none⟩ x):=(Qaa.refl (· = g) wr).setCell (p:=⟨g,o,none⟩) (.inr rfl) x
 have hP:∀c,pv.ownBlock=some c→¬c=g:=fun c hc e=>QFa h.hp hH h3 (by rw[hc,e])
 have hE:∀c,ev.ownBlock=some c→¬c=g:=fun c hc e=>by
  rcases h4 with h4|h4
  ·exact QFa h.he hH h4 (by rw[hc,e])
  ·exact h4 (by rw[hc,e])
 exact⟨h.hx.keeps k (fun e=>ne h.hx h1 e.symm),h.hr.keeps k (fun e=>ne h.hr h2 e.symm),h.ho.keeps k (fun e=>ne h.ho h2 e.symm),Qca h.hp k hP,Qca h.he k hE,h.hnil,h.hT.keeps k (fun c e=>by have:=h.hT.1;exact⟨by omega,by omega⟩),h.hK.setCell (.inl hg) x,h.hb,h.hpos,h.hlen,h.hsz,h.hes,h.hel⟩
theorem GoS.path(h:GoS B b w wr tv nm pv ev ps es (i+1)){pv':Value}{s:ByteArray}(Hj:w'.ownsRow w.heap.size 9 1 pv' (ps.length+1) (QHc ps++[.string s]))(hg:wr.grownBy w' pv.ownBlock)(hs:s.size+100*i≤10000):GoS B b w w' tv nm pv' ev (ps++[s]) es i:=by
 have hb:=h.hb
 have k:Qaa (fun c=>pv.ownBlock=some c) wr w':=Qaa.of_grown hg (fun c e=>e)
 have kb:Qaa (· = b) w w':=h.hK.grown hg (fun c e=>.inl (h.hp.lt c e).1)
 refine⟨h.hx.keeps k (QFa h.hp h.hx (by decide)),h.hr.keeps k (QFa h.hp h.hr (by decide)),h.ho.keeps k (QFa h.hp h.ho (by decide)),by rw[List.length_append];simpa[QHc]using Hj,Qca h.he k (fun c hc e=>?_),h.hnil,h.hT.keeps k (fun c e=>?_),kb,h.hb,by simp,by rw[List.length_append];have:=h.hlen;simp;omega,?_,h.hes,by have:=h.hel;omega⟩
 ·rcases Qad h.he h.hp (by decide)with e1|e1
  ·rw[e1]at hc;cases hc
  ·exact e1 (by rw[hc,e])
 ·have h1:=(h.hp.lt c e).1
  have:=h.hT.1
  exact⟨by omega,by omega⟩
 ·intro x hx
  rcases List.mem_append.1 hx with hx|hx
  ·have:=h.hsz x hx;omega
  ·rw[List.mem_singleton]at hx;subst hx;exact hs
theorem GoS.less(h:GoS B b w wr tv nm pv ev ps es (i+1)):GoS B b w wr tv nm pv ev ps es i:=
 ⟨h.hx,h.hr,h.ho,h.hp,h.he,h.hnil,h.hT,h.hK,h.hb,h.hpos,by have:=h.hlen;omega,fun s hs=>by have:=h.hsz s hs;omega,h.hes,by have:=h.hel;omega⟩
theorem GoS.mono{j:Nat}(h:GoS B b w wr tv nm pv ev ps es i)(hj:j≤i):GoS B b w wr tv nm pv ev ps es j:=
 ⟨h.hx,h.hr,h.ho,h.hp,h.he,h.hnil,h.hT,h.hK,h.hb,h.hpos,by have:=h.hlen;omega,fun s hs=>by have:=h.hsz s hs;omega,h.hes,by have:=h.hel;omega⟩
theorem GoS.put(h:GoS B b w wr tv nm pv ev ps es i){v':Value}{es':List Qja}(Hj:wr.ownsRow w.heap.size 39 4 v' es'.length (Qqa es'))(Hm:es'≠[])(hz:QAe es')(hl:es'.length+i≤100):GoS B b w (wr.setCell ⟨w.heap.size+1+1,1,none⟩ v') tv nm pv v' ps es' i:=by
 have hb:=h.hb
 have k:Qaa (· = w.heap.size+1+1) wr (wr.setCell ⟨w.heap.size+1+1,1,none⟩ v'):=(Qaa.refl (· = w.heap.size+1+1) wr).setCell (p:=⟨w.heap.size+1+1,1,none⟩) (.inr rfl) v'
 have hT:=h.hT.1
 exact⟨h.hx.keeps k (by omega),h.hr.keeps k (by omega),h.ho.set 1 v',Qca h.hp k (fun c hc e=>QFa h.hp h.ho (by decide) (by rw[hc,e])),Qca Hj k (fun c hc e=>QFa Hj h.ho (by decide) (by rw[hc,e])),fun e=>absurd e Hm,h.hT.keeps k (fun c e=>⟨by omega,by omega⟩),h.hK.setCell (.inl (show w.heap.size≤w.heap.size+1+1 by omega)) v',h.hb,h.hpos,h.hlen,h.hsz,hz,hl⟩
theorem GoS.out(h:GoS B b w wr tv nm pv ev ps es i):((wr.setCell ⟨w.heap.size+1,0,none⟩ (.string nm)).setCell ⟨w.heap.size+1,1,none⟩ ev).ownsRow w.heap.size 39 4 ev es.length (Qqa es)∧Qtc B ((wr.setCell ⟨w.heap.size+1,0,none⟩ (.string nm)).setCell ⟨w.heap.size+1,1,none⟩ ev) b∧Qaa (· = b) w ((wr.setCell ⟨w.heap.size+1,0,none⟩ (.string nm)).setCell ⟨w.heap.size+1,1,none⟩ ev):=by
 have hb:=h.hb
 have hT:=h.hT.1
 have k:Qaa (· = w.heap.size+1) wr ((wr.setCell ⟨w.heap.size+1,0,none⟩ (.string nm)).setCell ⟨w.heap.size+1,1,none⟩ ev):=((Qaa.refl (· = w.heap.size+1) wr).setCell (p:=⟨w.heap.size+1,0,none⟩) (.inr rfl) _).setCell (p:=⟨w.heap.size+1,1,none⟩) (.inr rfl) _
 exact⟨Qca h.he k (fun c hc e=>QFa h.he h.hr (by decide) (by rw[hc,e])),h.hT.keeps k (fun c e=>⟨by omega,by omega⟩),(h.hK.setCell (.inl (show w.heap.size≤w.heap.size+1 by omega)) _).setCell (.inl (show w.heap.size≤w.heap.size+1 by omega)) _⟩
end
def Qvl:List UInt8:=[47,32,123,32,97,32,123,32,112,32,61,32,60,49,62,59,32,47,100,101,108,101,116,101,45,112,114,111,112,101,114,116,121,47,32,113,59,32,125,59,32,125,59]
theorem Qrp:(Tryz.prog.info? 5).map (fun i=>(i.zero,i.size,i.bytes))=some (some (.int .u8 0),1,1):=by kernel_rfl
theorem Qpn:Qut Qvl 0=([⟨1,⟨#[]⟩,⟨#[47]⟩,[],1,1⟩,⟨1,⟨#[]⟩,⟨#[97]⟩,[],1,5⟩,⟨3,⟨#[]⟩,⟨#[112]⟩,[⟨1,[⟨1,⟨#[]⟩⟩],⟨#[]⟩⟩],1,9⟩,⟨4,⟨#[]⟩,⟨#[113]⟩,[],1,18⟩,⟨2,⟨#[]⟩,⟨#[]⟩,[],1,39⟩,⟨2,⟨#[]⟩,⟨#[]⟩,[],1,42⟩],(0,0,0),0):=by kernel_rfl
set_option maxRecDepth 100000 in
theorem QEq(a:Option Addr)(c:Nat)(w:World) :
 Calls Tryz.prog 123 #[.slice a 0 c] w fun e w'=>e = .returned (.tuple #[.string ⟨#[]⟩,.bool true])∧Below w.heap.size w w':=by
 go_enter Tryz.func123,Tryz.ntmps123
 go_wp2_with fail
 go_loopg [11,4] 0 (fun _ x y wr=>x = .int .i64 0∧y = .slice none 0 0∧w=wr)
 case atStart=>exact⟨rfl,rfl,rfl⟩
 case round=>
  obtain⟨rfl,rfl,rfl⟩:=hrel
  have jI:=Q4e (w:=w) (base:=0) (v:=.slice none 0 0) (acc:=[]) (World.ownsRow_nil _ _ _ _)
  go_wp2_with fail
  go_ret2
  exact⟨rfl,Below.refl _ _⟩
set_option maxRecDepth 100000 in
theorem QFq(g gc gcc c2:Nat)(w:World)(h0:w.cell? ⟨g,0,none⟩=some (.int .i64 1))(h1:w.cell? ⟨g,1,none⟩=some (.slice (some ⟨gc,0,none⟩) 1 gcc))(h2:w.cell? ⟨g,2,none⟩=some (.string ⟨#[]⟩))(k0:w.cell? ⟨gc,0,none⟩=some (.int .i64 1))(k1:w.cell? ⟨gc,1,none⟩=some (.string ⟨#[]⟩))(hg:g<w.heap.size)(hgc:gc<w.heap.size) :
 Calls Tryz.prog 123 #[.slice (some ⟨g,0,none⟩) 1 c2] w fun e w'=>e = .returned (.tuple #[.string ⟨#[0,0,0,1]⟩,.bool true])∧Below w.heap.size w w':=by
 go_enter Tryz.func123,Tryz.ntmps123
 go_wp2_with fail
 go_loopg [11,4] 1 (fun f x y wr=>(x = .int .i64 0∧f=1∧w=wr∧y = .slice none 0 0)∨(x = .int .i64 1∧wr.ownsRow w.heap.size 5 1 y 4 [.int .u8 0,.int .u8 0,.int .u8 0,.int .u8 1]∧Below w.heap.size w wr))
 case atStart=>exact .inl ⟨rfl,rfl,rfl,rfl⟩
 case round=>
  rcases hrel with⟨rfl,rfl,rfl,rfl⟩|⟨rfl,Hj,hb⟩
  ·go_wp2_with fail
   go_loopg [28,4] 1 (fun f x y wr=>(x = .int .i64 0∧f=1∧(w.alloc (.cells #[.int .i64 1,.slice (some ⟨gc,0,none⟩) 1 gcc,.string ⟨#[]⟩] 196))=wr∧y = .slice none 0 0)∨(x = .int .i64 1∧wr.ownsRow w.heap.size 5 1 y 4 [.int .u8 0,.int .u8 0,.int .u8 0,.int .u8 1]∧Below w.heap.size w wr))
   case atStart=>exact .inl ⟨rfl,rfl,rfl,rfl⟩
   case round=>
    rcases hrel with⟨rfl,rfl,rfl,rfl⟩|⟨rfl,Hj,hb⟩
    ·have Hc:Below w.heap.size w ((w.alloc (.cells #[.int .i64 1,.slice (some ⟨gc,0,none⟩) 1 gcc,.string ⟨#[]⟩] 196)).alloc (.cells #[.int .i64 1,.string ⟨#[]⟩] 198)):=((Below.refl _ _).alloc (Nat.le_refl _) _).alloc (by simp) _
     have GI:=hid Hc
     clear Hc
     obtain⟨i0,hi,H4,Hp,gj⟩:=info_parts Qrp
     go_wp2_with (at_builtin;refine wpList_append_own _ rfl (.tmp 35) (.tmp 51) 88 rfl w.heap.size 5 i0 (.int .u8 0) 1 1 Tryz.underlying88 hi H4 Hp gj rfl (by decide) (.slice none 0 0) 0 [] rfl (World.ownsRow_nil _ _ _ _) ⟨w.heap.size+1+1,0,none⟩ 4 4 [.int .u8 0,.int .u8 0,.int .u8 0,.int .u8 1] rfl rfl ?c1 ?c2 ?c3 ?c4 ?c5 ?_)
     case c1=>exact Q2a _ _ _ _ (by simp) _ rfl
     case c2=>intro u hu;simp at hu;rcases hu with rfl|rfl <;> rfl
     case c3=>unfold maxLen;omega
     case c4=>omega
     case c5=>simp;omega
     intro v' w6 Hg Hd _
     have gG:=(GI.out.alloc GI.out.size (.cells #[.int .u8 0,.int .u8 0,.int .u8 0,.int .u8 1] 5)).grown Hd (by simp;omega) (fun q hq=>by simp[Value.ownBlock]at hq)
     have HO:=hid Hg
     have HB:=hid gG
     clear Hd gG Hg
     obtain⟨va,vc,hv⟩:=Qea HO.out
     subst hv
     go_wp2_with fail
     go_roundg 0
     case measure=>omega
     case rel=>exact .inr ⟨by go_num,HO.out,HB.out⟩
    ·obtain⟨oa,oc,rfl⟩:=Qea Hj
     have HO:=hid Hj
     have HB:=hid hb
     clear Hj hb
     go_wp2_with fail
     go_roundg 0
     case measure=>omega
     case rel=>exact .inr ⟨by go_num,HO.out,HB.out⟩
  ·obtain⟨oa,oc,rfl⟩:=Qea Hj
   obtain⟨og,oc2,hv,tH,yV⟩:=Hj.form (by omega)
   cases hv
   have HB:=hid hb
   have jI:=Q4e (acc:=[0,0,0,1]) Hj
   go_wp2_with fail
   go_ret2
   exact⟨rfl,HB.out⟩
theorem Qim{w:World}{base g cap:Nat}{op:List ByteArray}{p:ByteArray}(h:w.ownsRow base 9 1 (.slice (some ⟨g,0,none⟩) (op.length+1) cap) (op.length+1) (QHc (op++[p]))):w.ownsRow base 9 1 (.slice (some ⟨g,0,none⟩) op.length cap) op.length (QHc op):=by
 rcases h.2 with⟨e,_⟩|⟨g',cap',cur,e,hb,hh,h1,h2,h3,h4⟩
 ·cases e
 ·simp only[Value.slice.injEq,Option.some.injEq,Addr.mk.injEq,and_true,true_and]at e
  obtain⟨rfl,rfl⟩:=e
  refine⟨Qnq op,.inr ⟨g,cap,cur,rfl,hb,hh,by omega,h2,h3,?_⟩⟩
  have h5:=congrArg (List.take (op.length*1)) h4
  rw[List.take_take]at h5
  have h6:min (op.length*1) ((op.length+1)*1)=op.length*1:=by omega
  rw[h6]at h5
  rw[h5]
  simp[QHc]
theorem Qoh{w:World}{base:Nat}{e:TypeId}{size:Nat}{a:Option Addr}{n cap:Nat}{xs:List Value}(h:w.ownsRow base e size (.slice a n cap) n xs):n≤cap∧cap≤9223372036854775807:=by
 rcases h.2 with⟨h1,rfl⟩|⟨g,cap',cur,h1,_,_,h3,h4,_⟩
 ·simp only[Value.slice.injEq]at h1
  obtain⟨_,_,rfl⟩:=h1
  exact⟨Nat.le_refl _,by omega⟩
 ·simp only[Value.slice.injEq]at h1
  obtain⟨_,_,rfl⟩:=h1
  unfold maxLen at h4
  exact⟨h3,by omega⟩
theorem Q9h{S:Nat→Prop}{w W1:World}{rb xb:Nat}{u ev z0 z1 z2 z3:Value}(v0 v1 v2 v3:Value)(hR:Holds W1 rb #[u,ev] 120)(hX:Holds W1 xb #[z0,z1,z2,z3] 39)(Hm:¬rb=xb)(hxw:w.heap.size≤xb)(hk:Qaa S w W1) :
 Holds ((((W1.setCell ⟨xb,0,none⟩ v0).setCell ⟨xb,1,none⟩ v1).setCell ⟨xb,2,none⟩ v2).setCell ⟨xb,3,none⟩ v3) rb #[u,ev] 120∧Holds ((((W1.setCell ⟨xb,0,none⟩ v0).setCell ⟨xb,1,none⟩ v1).setCell ⟨xb,2,none⟩ v2).setCell ⟨xb,3,none⟩ v3) xb #[v0,v1,v2,v3] 39∧
  Qaa S w ((((W1.setCell ⟨xb,0,none⟩ v0).setCell ⟨xb,1,none⟩ v1).setCell ⟨xb,2,none⟩ v2).setCell ⟨xb,3,none⟩ v3)∧Qaa (· = xb) W1 ((((W1.setCell ⟨xb,0,none⟩ v0).setCell ⟨xb,1,none⟩ v1).setCell ⟨xb,2,none⟩ v2).setCell ⟨xb,3,none⟩ v3):=by
 have k:Qaa (· = xb) W1 ((((W1.setCell ⟨xb,0,none⟩ v0).setCell ⟨xb,1,none⟩ v1).setCell ⟨xb,2,none⟩ v2).setCell ⟨xb,3,none⟩ v3):=((((Qaa.refl (· = xb) W1).setCell (p:=⟨xb,0,none⟩) (.inr rfl) v0).setCell (p:=⟨xb,1,none⟩) (.inr rfl) v1).setCell (p:=⟨xb,2,none⟩) (.inr rfl) v2).setCell (p:=⟨xb,3,none⟩) (.inr rfl) v3
 exact⟨hR.keeps k Hm,(((hX.set 0 v0).set 1 v1).set 2 v2).set 3 v3,hk.trans k (fun i hi e=>by omega),k⟩
set_option maxRecDepth 100000 in
theorem Qfp(rb base:Nat)(ov ev pv:Value)(nm text:ByteArray)(d4 d5 d6:Int)(w:World)
 (hR:Holds w rb #[ov,ev] 120) (hV:∀wx,Below w.heap.size w wx→Calls Tryz.prog 123 #[pv] wx fun e w'=>e = .returned (.tuple #[.string text,.bool true])∧Below wx.heap.size wx w')
 (KR:∃a n c,pv = .slice a n c) (Hv:Lib.hasPrefix nm.data.toList [38]=false) (MJ:text.size≤256) (hb:base≤w.heap.size) (mm:∃a c,ov = .slice a 0 c) :
 Calls Tryz.prog 86 #[.pointer (some ⟨rb,0,none⟩),.agg #[.int .i64 1,.string ⟨#[]⟩,.string nm,pv,.int .i64 d4,.int .i64 d5,.int .i64 d6]] w fun e w'=>∃ov',e = .returned (.tuple #[.agg #[.int .i64 0,.string ⟨#[]⟩,.string ⟨#[]⟩,.string ⟨#[]⟩],.bool false,.int .i64 0])∧Holds w' rb #[ov',ev] 120∧w'.ownsRow base 9 1 ov' 1 (QHc [⟨#[47]⟩])∧Qaa (· = rb) w w':=by
 obtain⟨oa,oc,rfl⟩:=mm
 obtain⟨va,vn,vc,rfl⟩:=KR
 have Ju:=(Holds.new w #[.int .i64 1,.string ⟨#[]⟩,.string nm,.slice va vn vc,.int .i64 d4,.int .i64 d5,.int .i64 d6] 123).alloc (.cells #[.int .i64 0,.string ⟨#[]⟩,.string ⟨#[]⟩,.string ⟨#[]⟩] 39)
 have H4:=Holds.newAt (w:=w.alloc (.cells #[.int .i64 1,.string ⟨#[]⟩,.string nm,.slice va vn vc,.int .i64 d4,.int .i64 d5,.int .i64 d6] 123)) (B:=w.heap.size+1) (by simp) #[.int .i64 0,.string ⟨#[]⟩,.string ⟨#[]⟩,.string ⟨#[]⟩] 39
 have He:Below w.heap.size w ((w.alloc (.cells #[.int .i64 1,.string ⟨#[]⟩,.string nm,.slice va vn vc,.int .i64 d4,.int .i64 d5,.int .i64 d6] 123)).alloc (.cells #[.int .i64 0,.string ⟨#[]⟩,.string ⟨#[]⟩,.string ⟨#[]⟩] 39)):=((Below.refl _ _).alloc (Nat.le_refl _) _).alloc (by simp) _
 have Ji:=hid Ju
 have mU:=hid H4
 have G5:=hid He
 have HV:=hid (hV _ He)
 have Jj:=hid (fun wx=>Tryz.strings_HasPrefix nm ⟨#[38]⟩ wx)
 rw[show(⟨#[38]⟩:ByteArray).data.toList=[38]from rfl,Hv]at Jj
 have vx:¬(256:Int)<(text.size:Int):=by omega
 clear Ju H4 He hV Hv
 go_enter Tryz.func86,Tryz.ntmps86
 go_wp2_with fail
 refine(by exact HV.out:Calls _ _ _ _ _).mono ?_
 rintro e w1 ⟨rfl,Hb⟩
 have Gy:=Ji.out.keeps (Qaa.of_fresh Hb (fun _=>False)) (fun e=>e)
 have Hp:=mU.out.keeps (Qaa.of_fresh Hb (fun _=>False)) (fun e=>e)
 have HJ:=hid (G5.out.trans (Hb.mono G5.out.size))
 have Hx:=hR.keeps (Qaa.of_fresh HJ.out (fun _=>False)) (fun e=>e)
 have a0:=Gy.cell 0
 have a1:=Gy.cell 1
 have a2:=Gy.cell 2
 have a3:=Gy.cell 3
 have al:=Gy.lt
 have z0:=Hp.cell 0
 have z1:=Hp.cell 1
 have z2:=Hp.cell 2
 have z3:=Hp.cell 3
 have zf0:=Hp.free 0
 have zf1:=Hp.free 1
 have zf2:=Hp.free 2
 have zf3:=Hp.free 3
 have zl:=Hp.lt
 have r0:=Hx.cell 0
 have r1:=Hx.cell 1
 have rf0:=Hx.free 0
 have rf1:=Hx.free 1
 have rl:=Hx.lt
 have kr:=hid Hx
 have JN:=hid Gy
 have Ky:=hid Hp
 have hrb:¬rb=w.heap.size+1:=by have:=hR.lt;omega
 have iR:=hR.lt
 clear Gy Hp Hb Hx Ji mU HV hR
 go_wp2_with fail
 refine(by exact Jj.out _:Calls _ _ _ _ _).mono ?_
 rintro e w2 ⟨rfl,rfl⟩
 go_wp2_with fail
 have hsz:=HJ.out.size
 obtain⟨q1,q2,q3,q4⟩:=Q9h (w:=w) (.int .i64 0) (.string ⟨#[]⟩) (.string ⟨#[]⟩) (.string ⟨#[]⟩) (kr.out.set 0 (.slice (some ⟨w2.heap.size,0,none⟩) 1 1)) (Ky.out.other ⟨rb,0,none⟩ (.slice (some ⟨w2.heap.size,0,none⟩) 1 1) (fun e=>hrb e.symm)) hrb (by omega) ((Qaa.of_fresh HJ.out (· = rb)).setCell (p:=⟨rb,0,none⟩) (.inr rfl) _)
 have f0:=(q2.alloc (.cells #[.string ⟨#[47]⟩] 9)).cell 0
 have f1:=(q2.alloc (.cells #[.string ⟨#[47]⟩] 9)).cell 1
 have f2:=(q2.alloc (.cells #[.string ⟨#[47]⟩] 9)).cell 2
 have f3:=(q2.alloc (.cells #[.string ⟨#[47]⟩] 9)).cell 3
 exact bodyPost_ret (v:=.tuple #[.agg #[.int .i64 0,.string ⟨#[]⟩,.string ⟨#[]⟩,.string ⟨#[]⟩],.bool false,.int .i64 0]) (by simp[results,Tryz.results86,go_sem,f0,f1,f2,f3]) rfl ⟨_,rfl,q1.alloc _,QRe (n:=1) (size:=1) (cs:=#[.string ⟨#[47]⟩]) (by simp) (by omega) rfl (by omega),q3.alloc _⟩
set_option maxRecDepth 100000 in
theorem QJm(rb base:Nat)(ov ev pv:Value)(nm text:ByteArray)(d4 d5 d6:Int)(op:List ByteArray)(p:ByteArray)(w:World)
 (hR:Holds w rb #[ov,ev] 120) (hV:∀wx,Below w.heap.size w wx→Calls Tryz.prog 123 #[pv] wx fun e w'=>e = .returned (.tuple #[.string text,.bool true])∧Below wx.heap.size wx w')
 (KR:∃a n c,pv = .slice a n c) (Hv:Lib.hasPrefix nm.data.toList [38]=false) (MJ:text.size≤256) (hb:base≤w.heap.size) (mm:w.ownsRow base 9 1 ov (op.length+1) (QHc (op++[p]))) (M0:op.length≤1000) :
 Calls Tryz.prog 86 #[.pointer (some ⟨rb,0,none⟩),.agg #[.int .i64 2,.string ⟨#[]⟩,.string nm,pv,.int .i64 d4,.int .i64 d5,.int .i64 d6]] w fun e w'=>∃ov',e = .returned (.tuple #[.agg #[.int .i64 0,.string ⟨#[]⟩,.string ⟨#[]⟩,.string ⟨#[]⟩],.bool false,.int .i64 0])∧Holds w' rb #[ov',ev] 120∧w'.ownsRow base 9 1 ov' op.length (QHc op)∧Qaa (· = rb) w w':=by
 obtain⟨og,oc,rfl,eZ,Hf⟩:=mm.form (by omega)
 have fJ:=hid mm
 have bY:=Qoh mm
 have Dl:¬og=rb:=fun e=>QFa mm hR (by decide) (by rw[e];rfl)
 clear mm
 obtain⟨va,vn,vc,rfl⟩:=KR
 have Ju:=(Holds.new w #[.int .i64 2,.string ⟨#[]⟩,.string nm,.slice va vn vc,.int .i64 d4,.int .i64 d5,.int .i64 d6] 123).alloc (.cells #[.int .i64 0,.string ⟨#[]⟩,.string ⟨#[]⟩,.string ⟨#[]⟩] 39)
 have H4:=Holds.newAt (w:=w.alloc (.cells #[.int .i64 2,.string ⟨#[]⟩,.string nm,.slice va vn vc,.int .i64 d4,.int .i64 d5,.int .i64 d6] 123)) (B:=w.heap.size+1) (by simp) #[.int .i64 0,.string ⟨#[]⟩,.string ⟨#[]⟩,.string ⟨#[]⟩] 39
 have He:Below w.heap.size w ((w.alloc (.cells #[.int .i64 2,.string ⟨#[]⟩,.string nm,.slice va vn vc,.int .i64 d4,.int .i64 d5,.int .i64 d6] 123)).alloc (.cells #[.int .i64 0,.string ⟨#[]⟩,.string ⟨#[]⟩,.string ⟨#[]⟩] 39)):=((Below.refl _ _).alloc (Nat.le_refl _) _).alloc (by simp) _
 have Ji:=hid Ju
 have mU:=hid H4
 have G5:=hid He
 have HV:=hid (hV _ He)
 have Jj:=hid (fun wx=>Tryz.strings_HasPrefix nm ⟨#[38]⟩ wx)
 rw[show(⟨#[38]⟩:ByteArray).data.toList=[38]from rfl,Hv]at Jj
 have vx:¬(256:Int)<(text.size:Int):=by omega
 clear Ju H4 He hV Hv
 go_enter Tryz.func86,Tryz.ntmps86
 go_wp2_with fail
 refine(by exact HV.out:Calls _ _ _ _ _).mono ?_
 rintro e w1 ⟨rfl,Hb⟩
 have Gy:=Ji.out.keeps (Qaa.of_fresh Hb (fun _=>False)) (fun e=>e)
 have Hp:=mU.out.keeps (Qaa.of_fresh Hb (fun _=>False)) (fun e=>e)
 have HJ:=hid (G5.out.trans (Hb.mono G5.out.size))
 have Hx:=hR.keeps (Qaa.of_fresh HJ.out (fun _=>False)) (fun e=>e)
 have a0:=Gy.cell 0
 have a1:=Gy.cell 1
 have a2:=Gy.cell 2
 have a3:=Gy.cell 3
 have al:=Gy.lt
 have z0:=Hp.cell 0
 have z1:=Hp.cell 1
 have z2:=Hp.cell 2
 have z3:=Hp.cell 3
 have zf0:=Hp.free 0
 have zf1:=Hp.free 1
 have zf2:=Hp.free 2
 have zf3:=Hp.free 3
 have zl:=Hp.lt
 have r0:=Hx.cell 0
 have r1:=Hx.cell 1
 have rf0:=Hx.free 0
 have rf1:=Hx.free 1
 have rl:=Hx.lt
 have kr:=hid Hx
 have JN:=hid Gy
 have Ky:=hid Hp
 have hrb:¬rb=w.heap.size+1:=by have:=hR.lt;omega
 have iR:=hR.lt
 clear Gy Hp Hb Hx Ji mU HV hR
 go_wp2_with fail
 refine(by exact Jj.out _:Calls _ _ _ _ _).mono ?_
 rintro e w2 ⟨rfl,rfl⟩
 go_wp2_with fail
 go_region
 go_wp2_with fail
 have hsz:=HJ.out.size
 obtain⟨q1,q2,q3,q4⟩:=Q9h (w:=w) (.int .i64 0) (.string ⟨#[]⟩) (.string ⟨#[]⟩) (.string ⟨#[]⟩) (kr.out.set 0 (.slice (some ⟨og,0,none⟩) op.length oc)) (Ky.out.other ⟨rb,0,none⟩ (.slice (some ⟨og,0,none⟩) op.length oc) (fun e=>hrb e.symm)) hrb (by omega) ((Qaa.of_fresh HJ.out (· = rb)).setCell (p:=⟨rb,0,none⟩) (.inr rfl) _)
 have f0:=q2.drew.cell 0
 have f1:=q2.drew.cell 1
 have f2:=q2.drew.cell 2
 have f3:=q2.drew.cell 3
 exact bodyPost_ret (v:=.tuple #[.agg #[.int .i64 0,.string ⟨#[]⟩,.string ⟨#[]⟩,.string ⟨#[]⟩],.bool false,.int .i64 0]) (by simp[results,Tryz.results86,go_sem,f0,f1,f2,f3]) rfl ⟨_,rfl,q1.drew,Qca (Qim fJ.out) q3.drew (fun g hg e=>by cases hg;exact Dl e),q3.drew⟩
set_option maxRecDepth 100000 in
theorem Qep(rb base:Nat)(ov ev pv:Value)(nm text:ByteArray)(d4 d5 d6:Int)(op:List ByteArray)(p:ByteArray)(w:World)
 (hR:Holds w rb #[ov,ev] 120) (hV:∀wx,Below w.heap.size w wx→Calls Tryz.prog 123 #[pv] wx fun e w'=>e = .returned (.tuple #[.string text,.bool true])∧Below wx.heap.size wx w')
 (KR:∃a n c,pv = .slice a n c) (Hv:Lib.hasPrefix nm.data.toList [38]=false) (MJ:text.size≤256) (hb:base≤w.heap.size) (mm:w.ownsRow base 9 1 ov (op.length+1) (QHc (op++[p]))) (M0:op.length≤1000) :
 Calls Tryz.prog 86 #[.pointer (some ⟨rb,0,none⟩),.agg #[.int .i64 3,.string ⟨#[]⟩,.string nm,pv,.int .i64 d4,.int .i64 d5,.int .i64 d6]] w fun e w'=>e = .returned (.tuple #[.agg #[.int .i64 2,.string p,.string nm,.string text],.bool true,.int .i64 0])∧Holds w' rb #[ov,ev] 120∧Qaa (· = rb) w w':=by
 obtain⟨og,oc,rfl,eZ,Hf⟩:=mm.form (by omega)
 have fJ:=hid mm
 have bY:=Qoh mm
 clear mm
 obtain⟨va,vn,vc,rfl⟩:=KR
 have Ju:=(Holds.new w #[.int .i64 3,.string ⟨#[]⟩,.string nm,.slice va vn vc,.int .i64 d4,.int .i64 d5,.int .i64 d6] 123).alloc (.cells #[.int .i64 0,.string ⟨#[]⟩,.string ⟨#[]⟩,.string ⟨#[]⟩] 39)
 have H4:=Holds.newAt (w:=w.alloc (.cells #[.int .i64 3,.string ⟨#[]⟩,.string nm,.slice va vn vc,.int .i64 d4,.int .i64 d5,.int .i64 d6] 123)) (B:=w.heap.size+1) (by simp) #[.int .i64 0,.string ⟨#[]⟩,.string ⟨#[]⟩,.string ⟨#[]⟩] 39
 have He:Below w.heap.size w ((w.alloc (.cells #[.int .i64 3,.string ⟨#[]⟩,.string nm,.slice va vn vc,.int .i64 d4,.int .i64 d5,.int .i64 d6] 123)).alloc (.cells #[.int .i64 0,.string ⟨#[]⟩,.string ⟨#[]⟩,.string ⟨#[]⟩] 39)):=((Below.refl _ _).alloc (Nat.le_refl _) _).alloc (by simp) _
 have Ji:=hid Ju
 have mU:=hid H4
 have G5:=hid He
 have HV:=hid (hV _ He)
 have Jj:=hid (fun wx=>Tryz.strings_HasPrefix nm ⟨#[38]⟩ wx)
 rw[show(⟨#[38]⟩:ByteArray).data.toList=[38]from rfl,Hv]at Jj
 have vx:¬(256:Int)<(text.size:Int):=by omega
 clear Ju H4 He hV Hv
 go_enter Tryz.func86,Tryz.ntmps86
 go_wp2_with fail
 refine(by exact HV.out:Calls _ _ _ _ _).mono ?_
 rintro e w1 ⟨rfl,Hb⟩
 have Gy:=Ji.out.keeps (Qaa.of_fresh Hb (fun _=>False)) (fun e=>e)
 have Hp:=mU.out.keeps (Qaa.of_fresh Hb (fun _=>False)) (fun e=>e)
 have HJ:=hid (G5.out.trans (Hb.mono G5.out.size))
 have Hx:=hR.keeps (Qaa.of_fresh HJ.out (fun _=>False)) (fun e=>e)
 have a0:=Gy.cell 0
 have a1:=Gy.cell 1
 have a2:=Gy.cell 2
 have a3:=Gy.cell 3
 have al:=Gy.lt
 have z0:=Hp.cell 0
 have z1:=Hp.cell 1
 have z2:=Hp.cell 2
 have z3:=Hp.cell 3
 have zf0:=Hp.free 0
 have zf1:=Hp.free 1
 have zf2:=Hp.free 2
 have zf3:=Hp.free 3
 have zl:=Hp.lt
 have r0:=Hx.cell 0
 have r1:=Hx.cell 1
 have rf0:=Hx.free 0
 have rf1:=Hx.free 1
 have rl:=Hx.lt
 have kr:=hid Hx
 have JN:=hid Gy
 have Ky:=hid Hp
 have hrb:¬rb=w.heap.size+1:=by have:=hR.lt;omega
 have iR:=hR.lt
 clear Gy Hp Hb Hx Ji mU HV hR
 go_wp2_with fail
 refine(by exact Jj.out _:Calls _ _ _ _ _).mono ?_
 rintro e w2 ⟨rfl,rfl⟩
 have jo:=Qhb fJ.out HJ.out
 have gE:w2.cell? ⟨og,op.length,none⟩=some (.string p):=by
  rw[jo.cellAt _ (by omega)];simp[QHc]
 have nN:=World.block_lt_of_cell? w2 _ gE
 have yF:¬((op.length:Int)+1=0):=by omega
 have Bi:(op.length:Int)<(op.length:Int)+1:=by omega
 have uW:IntKind.i64.wrap (op.length:Int)=(op.length:Int):=IntWalk.i64_in _ (by omega)
 clear jo
 go_wp2_with fail
 go_region
 go_wp2_with fail
 have hsz:=HJ.out.size
 obtain⟨q1,q2,q3,_⟩:=Q9h (w:=w) (.int .i64 2) (.string p) (.string nm) (.string text) kr.out Ky.out hrb (by omega) (Qaa.of_fresh HJ.out (· = rb))
 obtain⟨u1,u2,u3,_⟩:=Q9h (w:=w) (.int .i64 2) (.string p) (.string nm) (.string text) q1 q2 hrb (by omega) q3
 have f0:=u2.drew.cell 0
 have f1:=u2.drew.cell 1
 have f2:=u2.drew.cell 2
 have f3:=u2.drew.cell 3
 exact bodyPost_ret (v:=.tuple #[.agg #[.int .i64 2,.string p,.string nm,.string text],.bool true,.int .i64 0]) (by simp[results,Tryz.results86,go_sem,f0,f1,f2,f3]) rfl ⟨rfl,u1.drew,u3.drew⟩
set_option maxRecDepth 100000 in
theorem Qgr(rb base:Nat)(ov ev pv:Value)(nm text:ByteArray)(d4 d5 d6:Int)(op:List ByteArray)(p:ByteArray)(w:World)
 (hR:Holds w rb #[ov,ev] 120) (hV:∀wx,Below w.heap.size w wx→Calls Tryz.prog 123 #[pv] wx fun e w'=>e = .returned (.tuple #[.string text,.bool true])∧Below wx.heap.size wx w')
 (KR:∃a n c,pv = .slice a n c) (Hv:Lib.hasPrefix nm.data.toList [38]=false) (MJ:text.size≤256) (hb:base≤w.heap.size) (mm:w.ownsRow base 9 1 ov (op.length+1) (QHc (op++[p]))) (M0:op.length≤1000) :
 Calls Tryz.prog 86 #[.pointer (some ⟨rb,0,none⟩),.agg #[.int .i64 4,.string ⟨#[]⟩,.string nm,pv,.int .i64 d4,.int .i64 d5,.int .i64 d6]] w fun e w'=>e = .returned (.tuple #[.agg #[.int .i64 3,.string p,.string nm,.string text],.bool true,.int .i64 0])∧Holds w' rb #[ov,ev] 120∧Qaa (· = rb) w w':=by
 obtain⟨og,oc,rfl,eZ,Hf⟩:=mm.form (by omega)
 have fJ:=hid mm
 have bY:=Qoh mm
 clear mm
 obtain⟨va,vn,vc,rfl⟩:=KR
 have Ju:=(Holds.new w #[.int .i64 4,.string ⟨#[]⟩,.string nm,.slice va vn vc,.int .i64 d4,.int .i64 d5,.int .i64 d6] 123).alloc (.cells #[.int .i64 0,.string ⟨#[]⟩,.string ⟨#[]⟩,.string ⟨#[]⟩] 39)
 have H4:=Holds.newAt (w:=w.alloc (.cells #[.int .i64 4,.string ⟨#[]⟩,.string nm,.slice va vn vc,.int .i64 d4,.int .i64 d5,.int .i64 d6] 123)) (B:=w.heap.size+1) (by simp) #[.int .i64 0,.string ⟨#[]⟩,.string ⟨#[]⟩,.string ⟨#[]⟩] 39
 have He:Below w.heap.size w ((w.alloc (.cells #[.int .i64 4,.string ⟨#[]⟩,.string nm,.slice va vn vc,.int .i64 d4,.int .i64 d5,.int .i64 d6] 123)).alloc (.cells #[.int .i64 0,.string ⟨#[]⟩,.string ⟨#[]⟩,.string ⟨#[]⟩] 39)):=((Below.refl _ _).alloc (Nat.le_refl _) _).alloc (by simp) _
 have Ji:=hid Ju
 have mU:=hid H4
 have G5:=hid He
 have HV:=hid (hV _ He)
 have Jj:=hid (fun wx=>Tryz.strings_HasPrefix nm ⟨#[38]⟩ wx)
 rw[show(⟨#[38]⟩:ByteArray).data.toList=[38]from rfl,Hv]at Jj
 have vx:¬(256:Int)<(text.size:Int):=by omega
 clear Ju H4 He hV Hv
 go_enter Tryz.func86,Tryz.ntmps86
 go_wp2_with fail
 refine(by exact HV.out:Calls _ _ _ _ _).mono ?_
 rintro e w1 ⟨rfl,Hb⟩
 have Gy:=Ji.out.keeps (Qaa.of_fresh Hb (fun _=>False)) (fun e=>e)
 have Hp:=mU.out.keeps (Qaa.of_fresh Hb (fun _=>False)) (fun e=>e)
 have HJ:=hid (G5.out.trans (Hb.mono G5.out.size))
 have Hx:=hR.keeps (Qaa.of_fresh HJ.out (fun _=>False)) (fun e=>e)
 have a0:=Gy.cell 0
 have a1:=Gy.cell 1
 have a2:=Gy.cell 2
 have a3:=Gy.cell 3
 have al:=Gy.lt
 have z0:=Hp.cell 0
 have z1:=Hp.cell 1
 have z2:=Hp.cell 2
 have z3:=Hp.cell 3
 have zf0:=Hp.free 0
 have zf1:=Hp.free 1
 have zf2:=Hp.free 2
 have zf3:=Hp.free 3
 have zl:=Hp.lt
 have r0:=Hx.cell 0
 have r1:=Hx.cell 1
 have rf0:=Hx.free 0
 have rf1:=Hx.free 1
 have rl:=Hx.lt
 have kr:=hid Hx
 have JN:=hid Gy
 have Ky:=hid Hp
 have hrb:¬rb=w.heap.size+1:=by have:=hR.lt;omega
 have iR:=hR.lt
 clear Gy Hp Hb Hx Ji mU HV hR
 go_wp2_with fail
 refine(by exact Jj.out _:Calls _ _ _ _ _).mono ?_
 rintro e w2 ⟨rfl,rfl⟩
 have jo:=Qhb fJ.out HJ.out
 have gE:w2.cell? ⟨og,op.length,none⟩=some (.string p):=by
  rw[jo.cellAt _ (by omega)];simp[QHc]
 have nN:=World.block_lt_of_cell? w2 _ gE
 have yF:¬((op.length:Int)+1=0):=by omega
 have Bi:(op.length:Int)<(op.length:Int)+1:=by omega
 have uW:IntKind.i64.wrap (op.length:Int)=(op.length:Int):=IntWalk.i64_in _ (by omega)
 clear jo
 go_wp2_with fail
 go_region
 go_wp2_with fail
 have hsz:=HJ.out.size
 obtain⟨q1,q2,q3,_⟩:=Q9h (w:=w) (.int .i64 2) (.string p) (.string nm) (.string text) kr.out Ky.out hrb (by omega) (Qaa.of_fresh HJ.out (· = rb))
 have q2:=q2.set 0 (.int .i64 3)
 have q1:=q1.other ⟨w.heap.size+1,0,none⟩ (.int .i64 3) hrb
 have q3:=q3.setCell (p:=⟨w.heap.size+1,0,none⟩) (.inl (show w.heap.size≤w.heap.size+1 by omega)) (.int .i64 3)
 obtain⟨u1,u2,u3,_⟩:=Q9h (w:=w) (.int .i64 3) (.string p) (.string nm) (.string text) q1 q2 hrb (by omega) q3
 have f0:=u2.drew.cell 0
 have f1:=u2.drew.cell 1
 have f2:=u2.drew.cell 2
 have f3:=u2.drew.cell 3
 exact bodyPost_ret (v:=.tuple #[.agg #[.int .i64 3,.string p,.string nm,.string text],.bool true,.int .i64 0]) (by simp[results,Tryz.results86,go_sem,f0,f1,f2,f3]) rfl ⟨rfl,u1.drew,u3.drew⟩
noncomputable def Qzi:Array Oper:=(QXa (Tryz.f86.body.getD .skip) 14).getD #[]
theorem oeR:Qjc .any Qzi=true:=by kernel_rfl
theorem QTj:Qbc Qzi=true:=by kernel_rfl
theorem Quu:Qzi.size=18:=by kernel_rfl
def OeF(rb db og n n1 oc:Nat)(_ _:Value)(nm p t0 t1 s:ByteArray)(_ _ _:Int)(j:Nat):Value→World→Prop:=match j with
 | 0=>fun u _=>u = .pointer (some ⟨rb,0,none⟩)
 | 1=>fun u _=>u = .pointer (some ⟨rb,0,none⟩)
 | 2=>fun u _=>u = .pointer (some ⟨rb,0,none⟩)
 | 3=>fun u _=>u = .slice (some ⟨og,0,none⟩) n1 oc
 | 4=>fun u _=>u = .pointer (some ⟨rb,0,none⟩)
 | 5=>fun u _=>u = .pointer (some ⟨rb,0,none⟩)
 | 6=>fun u _=>u = .pointer (some ⟨rb,0,none⟩)
 | 7=>fun u _=>u = .slice (some ⟨og,0,none⟩) n1 oc
 | 8=>fun u _=>u = .int .i64 (n1:Int)
 | 9=>fun u _=>u = .int .i64 (n:Int)
 | 10=>fun u _=>u = .pointer (some ⟨og,n,none⟩)
 | 11=>fun u _=>u = .string p
 | 12=>fun u _=>u = .string t0
 | 13=>fun u _=>u = .string t1
 | 14=>fun u _=>u = .pointer (some ⟨db,2,none⟩)
 | 15=>fun u _=>u = .string nm
 | 16=>fun u _=>u = .string s
 | 17=>fun u _=>u = .string s
 | _=>fun _ _=>True
def OeC(rb db og n n1 oc:Nat)(ev pv:Value)(nm p _ _ _:ByteArray)(d4 d5 d6:Int)(w:World):Prop:=Holds w rb #[.slice (some ⟨og,0,none⟩) n1 oc,ev] 120∧Holds w db #[.int .i64 1,.string ⟨#[]⟩,.string nm,pv,.int .i64 d4,.int .i64 d5,.int .i64 d6] 123∧w.cell? ⟨og,n,none⟩=some (.string p)
section
variable{rb db og n n1 oc:Nat}{ev pv:Value}{nm p t0 t1 s:ByteArray}{d4 d5 d6:Int}{w w':World}
end
set_option maxRecDepth 100000 in
theorem Q5l{Q:Exit→Act→World→Prop}(rb db og n n1 oc:Nat)(ev pv:Value)(nm p t0 t1 s:ByteArray)(d4 d5 d6:Int)(W w:World)(A:Act)(hsz:A.tmps.size=125)(JA:Hid (n1=n+1))(k9:n≤1000)(gS:Hid (∀wx:World,(Op.stringOp .add t0 ⟨#[47]⟩).run Tryz.prog wx = .ok (.string t1) wx))(pq:Hid (∀wx:World,(Op.stringOp .add t1 nm).run Tryz.prog wx = .ok (.string s) wx))(hts:Hid (∀wx,Calls Tryz.prog 125 #[.string p,.string ⟨#[47]⟩] wx fun e w'=>e = .returned (.string t0)∧w'=wx))
 (a0:A.tmps.getD 0 undef = .pointer (some ⟨rb,0,none⟩)) (a3:A.tmps.getD 3 undef = .pointer (some ⟨db,0,none⟩)) (hC0:OeC rb db og n n1 oc ev pv nm p t0 t1 s d4 d5 d6 W) (hE0:Below W.heap.size W w)
 (hQ:∀c w',Qrb Qzi A c→c.tmps.getD 9 undef = .string s→Below W.heap.size W w'→Q .normal c w') :
 wpAny Tryz.prog .any Qzi Q Qzi.size (Array.replicate Qzi.size false) A w:=by
 refine QVa (fun l c wx=>QAb Qzi A (OeF rb db og n n1 oc ev pv nm p t0 t1 s d4 d5 d6) (fun _=>True) l c wx∧Below W.heap.size W wx) oeR ?hend ?Hk _ _ _ _ (by simp) (by simp) ⟨QAb.start trivial,hE0⟩
 case hend=>
  rintro l c wx ⟨hI,hS⟩ hl
  have hh:∀k,k<18→l.getD k false=true:=fun k hk=>hl k (by rw[Quu];exact hk)
  exact hQ c wx hI.1.1 (hI.fact 17 9 rfl (hh 17 (by decide))) hS
 intro l c wx mw i' op ho hl Ha K' hK'
 obtain⟨hI,hS⟩:=mw
 have mg:l.size=18:=by rw[hI.1.2.2.1.1,Quu]
 have hi':i'<18:=by rw[←Quu];exact(Array.getElem?_eq_some_iff.1 ho).1
 have Hf:=ho
 simp only[Qzi,QXa,Tryz.f86,Option.getD_some,reduceIte,Nat.reduceEqDiff]at ho
 have s0:=(hI.slot 0 (by kernel_rfl)).trans a0
 have s3:=(hI.slot 3 (by kernel_rfl)).trans a3
 have fs:=And.intro True.intro True.intro
 simp only[Array.getD_eq_getD_getElem?]at s0 s3
 have GV:i'=0∨i'=1∨i'=2∨i'=3∨i'=4∨i'=5∨i'=6∨i'=7∨i'=8∨i'=9∨i'=10∨i'=11∨i'=12∨i'=13∨i'=14∨i'=15∨i'=16∨i'=17:=by omega
 clear hi'
 rcases GV with rfl|rfl|rfl|rfl|rfl|rfl|rfl|rfl|rfl|rfl|rfl|rfl|rfl|rfl|rfl|rfl|rfl|rfl
 all_goals cases ho
 ·go_simp
  exact hK' _ _ ⟨hI.step QTj 0 75 rfl (by rw[hsz];decide) _ _ Hf Ha trivial (fun _ _ h=>h) rfl,hS⟩
 ·have e0:c.tmps.getD 75 undef = .pointer (some ⟨rb,0,none⟩):=hI.fact 0 75 rfl (hI.1.2.2.1.2.yes_far 18 Hf Ha (by decide) (by kernel_rfl))
  have f0:=e0
  simp only[Array.getD_eq_getD_getElem?]at e0
  go_simp
  exact hK' _ _ ⟨hI.step QTj 1 76 rfl (by rw[hsz];decide) _ _ Hf Ha trivial (fun _ _ h=>h) rfl,hS⟩
 ·have e1:c.tmps.getD 76 undef = .pointer (some ⟨rb,0,none⟩):=hI.fact 1 76 rfl (hI.1.2.2.1.2.yes_far 18 Hf Ha (by decide) (by kernel_rfl))
  have f1:=e1
  simp only[Array.getD_eq_getD_getElem?]at e1
  go_simp
  exact hK' _ _ ⟨hI.step QTj 2 77 rfl (by rw[hsz];decide) _ _ Hf Ha trivial (fun _ _ h=>h) rfl,hS⟩
 ·have e2:c.tmps.getD 77 undef = .pointer (some ⟨rb,0,none⟩):=hI.fact 2 77 rfl (hI.1.2.2.1.2.yes_far 18 Hf Ha (by decide) (by kernel_rfl))
  have f2:=e2
  simp only[Array.getD_eq_getD_getElem?]at e2
  have hc:OeC rb db og n n1 oc ev pv nm p t0 t1 s d4 d5 d6 wx:=⟨hC0.1.keeps (Qaa.of_fresh hS (fun _=>False)) (fun e=>e),hC0.2.1.keeps (Qaa.of_fresh hS (fun _=>False)) (fun e=>e),((Qaa.of_fresh hS (fun _=>False)).cell (p:=⟨og,n,none⟩) (World.block_lt_of_cell? W _ hC0.2.2) (fun e=>e)).trans hC0.2.2⟩
  have x0:=hc.1.cell 0
  have xl:=hc.1.lt
  go_simp
  exact hK' _ _ ⟨hI.step QTj 3 78 rfl (by rw[hsz];decide) _ _ Hf Ha trivial (fun _ _ h=>h) rfl,hS⟩
 ·go_simp
  exact hK' _ _ ⟨hI.step QTj 4 79 rfl (by rw[hsz];decide) _ _ Hf Ha trivial (fun _ _ h=>h) rfl,hS⟩
 ·have e4:c.tmps.getD 79 undef = .pointer (some ⟨rb,0,none⟩):=hI.fact 4 79 rfl (hI.1.2.2.1.2.yes_far 18 Hf Ha (by decide) (by kernel_rfl))
  have f4:=e4
  simp only[Array.getD_eq_getD_getElem?]at e4
  go_simp
  exact hK' _ _ ⟨hI.step QTj 5 80 rfl (by rw[hsz];decide) _ _ Hf Ha trivial (fun _ _ h=>h) rfl,hS⟩
 ·have e5:c.tmps.getD 80 undef = .pointer (some ⟨rb,0,none⟩):=hI.fact 5 80 rfl (hI.1.2.2.1.2.yes_far 18 Hf Ha (by decide) (by kernel_rfl))
  have f5:=e5
  simp only[Array.getD_eq_getD_getElem?]at e5
  go_simp
  exact hK' _ _ ⟨hI.step QTj 6 81 rfl (by rw[hsz];decide) _ _ Hf Ha trivial (fun _ _ h=>h) rfl,hS⟩
 ·have e6:c.tmps.getD 81 undef = .pointer (some ⟨rb,0,none⟩):=hI.fact 6 81 rfl (hI.1.2.2.1.2.yes_far 18 Hf Ha (by decide) (by kernel_rfl))
  have f6:=e6
  simp only[Array.getD_eq_getD_getElem?]at e6
  have hc:OeC rb db og n n1 oc ev pv nm p t0 t1 s d4 d5 d6 wx:=⟨hC0.1.keeps (Qaa.of_fresh hS (fun _=>False)) (fun e=>e),hC0.2.1.keeps (Qaa.of_fresh hS (fun _=>False)) (fun e=>e),((Qaa.of_fresh hS (fun _=>False)).cell (p:=⟨og,n,none⟩) (World.block_lt_of_cell? W _ hC0.2.2) (fun e=>e)).trans hC0.2.2⟩
  have x0:=hc.1.cell 0
  have xl:=hc.1.lt
  go_simp
  exact hK' _ _ ⟨hI.step QTj 7 82 rfl (by rw[hsz];decide) _ _ Hf Ha trivial (fun _ _ h=>h) rfl,hS⟩
 ·have e7:c.tmps.getD 82 undef = .slice (some ⟨og,0,none⟩) n1 oc:=hI.fact 7 82 rfl (hI.1.2.2.1.2.yes_far 18 Hf Ha (by decide) (by kernel_rfl))
  have f7:=e7
  simp only[Array.getD_eq_getD_getElem?]at e7
  go_simp
  exact hK' _ _ ⟨hI.step QTj 8 83 rfl (by rw[hsz];decide) _ _ Hf Ha trivial (fun _ _ h=>h) rfl,hS⟩
 ·have e8:c.tmps.getD 83 undef = .int .i64 (n1:Int):=hI.fact 8 83 rfl (hI.1.2.2.1.2.yes_far 18 Hf Ha (by decide) (by kernel_rfl))
  have f8:=e8
  simp only[Array.getD_eq_getD_getElem?]at e8
  have hc:OeC rb db og n n1 oc ev pv nm p t0 t1 s d4 d5 d6 wx:=⟨hC0.1.keeps (Qaa.of_fresh hS (fun _=>False)) (fun e=>e),hC0.2.1.keeps (Qaa.of_fresh hS (fun _=>False)) (fun e=>e),((Qaa.of_fresh hS (fun _=>False)).cell (p:=⟨og,n,none⟩) (World.block_lt_of_cell? W _ hC0.2.2) (fun e=>e)).trans hC0.2.2⟩
  have hw:IntKind.i64.wrap ((n1:Int)-1)=(n:Int):=by rw[IntWalk.i64_in _ (by have:=JA.out;omega)];have:=JA.out;omega
  go_simp
  exact hK' _ _ ⟨hI.step QTj 9 84 rfl (by rw[hsz];decide) _ _ Hf Ha trivial (fun _ _ h=>h) rfl,hS⟩
 ·have e3:c.tmps.getD 78 undef = .slice (some ⟨og,0,none⟩) n1 oc:=hI.fact 3 78 rfl (hI.1.2.2.1.2.yes_far 18 Hf Ha (by decide) (by kernel_rfl))
  have f3:=e3
  simp only[Array.getD_eq_getD_getElem?]at e3
  have e9:c.tmps.getD 84 undef = .int .i64 (n:Int):=hI.fact 9 84 rfl (hI.1.2.2.1.2.yes_far 18 Hf Ha (by decide) (by kernel_rfl))
  have f9:=e9
  simp only[Array.getD_eq_getD_getElem?]at e9
  have hc:OeC rb db og n n1 oc ev pv nm p t0 t1 s d4 d5 d6 wx:=⟨hC0.1.keeps (Qaa.of_fresh hS (fun _=>False)) (fun e=>e),hC0.2.1.keeps (Qaa.of_fresh hS (fun _=>False)) (fun e=>e),((Qaa.of_fresh hS (fun _=>False)).cell (p:=⟨og,n,none⟩) (World.block_lt_of_cell? W _ hC0.2.2) (fun e=>e)).trans hC0.2.2⟩
  have ng:(n:Int)<(n1:Int):=by have:=JA.out;omega
  go_simp
  exact hK' _ _ ⟨hI.step QTj 10 85 rfl (by rw[hsz];decide) _ _ Hf Ha trivial (fun _ _ h=>h) rfl,hS⟩
 ·have e10:c.tmps.getD 85 undef = .pointer (some ⟨og,n,none⟩):=hI.fact 10 85 rfl (hI.1.2.2.1.2.yes_far 18 Hf Ha (by decide) (by kernel_rfl))
  have f10:=e10
  simp only[Array.getD_eq_getD_getElem?]at e10
  have hc:OeC rb db og n n1 oc ev pv nm p t0 t1 s d4 d5 d6 wx:=⟨hC0.1.keeps (Qaa.of_fresh hS (fun _=>False)) (fun e=>e),hC0.2.1.keeps (Qaa.of_fresh hS (fun _=>False)) (fun e=>e),((Qaa.of_fresh hS (fun _=>False)).cell (p:=⟨og,n,none⟩) (World.block_lt_of_cell? W _ hC0.2.2) (fun e=>e)).trans hC0.2.2⟩
  have x0:=hc.2.2
  have xl:=World.block_lt_of_cell? wx _ hc.2.2
  go_simp
  exact hK' _ _ ⟨hI.step QTj 11 86 rfl (by rw[hsz];decide) _ _ Hf Ha trivial (fun _ _ h=>h) rfl,hS⟩
 ·have e11:c.tmps.getD 86 undef = .string p:=hI.fact 11 86 rfl (hI.1.2.2.1.2.yes_far 18 Hf Ha (by decide) (by kernel_rfl))
  have f11:=e11
  simp only[Array.getD_eq_getD_getElem?]at e11
  have hc:OeC rb db og n n1 oc ev pv nm p t0 t1 s d4 d5 d6 wx:=⟨hC0.1.keeps (Qaa.of_fresh hS (fun _=>False)) (fun e=>e),hC0.2.1.keeps (Qaa.of_fresh hS (fun _=>False)) (fun e=>e),((Qaa.of_fresh hS (fun _=>False)).cell (p:=⟨og,n,none⟩) (World.block_lt_of_cell? W _ hC0.2.2) (fun e=>e)).trans hC0.2.2⟩
  go_simp
  refine(hts.out wx).mono ?_
  rintro e w2 ⟨rfl,rfl⟩
  exact hK' _ _ ⟨hI.step QTj 12 87 rfl (by rw[hsz];decide) _ _ Hf Ha trivial (fun _ _ h=>h) rfl,hS⟩
 ·have e12:c.tmps.getD 87 undef = .string t0:=hI.fact 12 87 rfl (hI.1.2.2.1.2.yes_far 18 Hf Ha (by decide) (by kernel_rfl))
  have f12:=e12
  simp only[Array.getD_eq_getD_getElem?]at e12
  have hc:OeC rb db og n n1 oc ev pv nm p t0 t1 s d4 d5 d6 wx:=⟨hC0.1.keeps (Qaa.of_fresh hS (fun _=>False)) (fun e=>e),hC0.2.1.keeps (Qaa.of_fresh hS (fun _=>False)) (fun e=>e),((Qaa.of_fresh hS (fun _=>False)).cell (p:=⟨og,n,none⟩) (World.block_lt_of_cell? W _ hC0.2.2) (fun e=>e)).trans hC0.2.2⟩
  have ka:=gS.out
  go_simp
  exact hK' _ _ ⟨hI.step QTj 13 88 rfl (by rw[hsz];decide) _ _ Hf Ha trivial (fun _ _ h=>h) rfl,hS⟩
 ·go_simp
  exact hK' _ _ ⟨hI.step QTj 14 89 rfl (by rw[hsz];decide) _ _ Hf Ha trivial (fun _ _ h=>h) rfl,hS⟩
 ·have e14:c.tmps.getD 89 undef = .pointer (some ⟨db,2,none⟩):=hI.fact 14 89 rfl (hI.1.2.2.1.2.yes_far 18 Hf Ha (by decide) (by kernel_rfl))
  have f14:=e14
  simp only[Array.getD_eq_getD_getElem?]at e14
  have hc:OeC rb db og n n1 oc ev pv nm p t0 t1 s d4 d5 d6 wx:=⟨hC0.1.keeps (Qaa.of_fresh hS (fun _=>False)) (fun e=>e),hC0.2.1.keeps (Qaa.of_fresh hS (fun _=>False)) (fun e=>e),((Qaa.of_fresh hS (fun _=>False)).cell (p:=⟨og,n,none⟩) (World.block_lt_of_cell? W _ hC0.2.2) (fun e=>e)).trans hC0.2.2⟩
  have x0:=hc.2.1.cell 2
  have xl:=hc.2.1.lt
  go_simp
  exact hK' _ _ ⟨hI.step QTj 15 90 rfl (by rw[hsz];decide) _ _ Hf Ha trivial (fun _ _ h=>h) rfl,hS⟩
 ·have e13:c.tmps.getD 88 undef = .string t1:=hI.fact 13 88 rfl (hI.1.2.2.1.2.yes_far 18 Hf Ha (by decide) (by kernel_rfl))
  have f13:=e13
  simp only[Array.getD_eq_getD_getElem?]at e13
  have e15:c.tmps.getD 90 undef = .string nm:=hI.fact 15 90 rfl (hI.1.2.2.1.2.yes_far 18 Hf Ha (by decide) (by kernel_rfl))
  have f15:=e15
  simp only[Array.getD_eq_getD_getElem?]at e15
  have hc:OeC rb db og n n1 oc ev pv nm p t0 t1 s d4 d5 d6 wx:=⟨hC0.1.keeps (Qaa.of_fresh hS (fun _=>False)) (fun e=>e),hC0.2.1.keeps (Qaa.of_fresh hS (fun _=>False)) (fun e=>e),((Qaa.of_fresh hS (fun _=>False)).cell (p:=⟨og,n,none⟩) (World.block_lt_of_cell? W _ hC0.2.2) (fun e=>e)).trans hC0.2.2⟩
  have ka:=pq.out
  go_simp
  exact hK' _ _ ⟨hI.step QTj 16 91 rfl (by rw[hsz];decide) _ _ Hf Ha trivial (fun _ _ h=>h) rfl,hS⟩
 ·have e16:c.tmps.getD 91 undef = .string s:=hI.fact 16 91 rfl (hI.1.2.2.1.2.yes_far 18 Hf Ha (by decide) (by kernel_rfl))
  have f16:=e16
  simp only[Array.getD_eq_getD_getElem?]at e16
  go_simp
  exact hK' _ _ ⟨hI.step QTj 17 9 rfl (by rw[hsz];decide) _ _ Hf Ha trivial (fun _ _ h=>h) rfl,hS⟩
end Go.Proofs.YtgaboghigefgbaaGreatDoor
