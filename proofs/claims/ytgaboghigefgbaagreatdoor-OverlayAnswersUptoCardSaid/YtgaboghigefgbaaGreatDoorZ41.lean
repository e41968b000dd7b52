/- Lemmas on the way to the law; no conditions. -/
import Derived.Test.YtgaboghigefgbaaGreatDoorZ31
import Derived.Test.YtgaboghigefgbaaGreatDoorZ17
import Derived.Test.YtgaboghigefgbaaGreatDoorZ40
import Derived.Test.YtgaboghigefgbaaGreatDoorZ39
import Derived.Test.YtgaboghigefgbaaGreatDoorZ44
set_option linter.all false
set_option maxRecDepth 100000
set_option maxHeartbeats 8000000
namespace Go.Proofs.YtgaboghigefgbaaGreatDoor
open Go.Proofs.Tryz
open Go.Lib (hid)
open Go.RowKit
def QBc(l:List ByteArray):List Value:=l.map Value.string
theorem QOq(l:List ByteArray):(QBc l).length=l.length*1:=by simp[QBc]
structure GoS(B b:Nat)(w wr:World)(tv:Value)(nm:ByteArray)(pv ev:Value)(ps:List ByteArray)(es:List Qga)(i:Nat):Prop where
 hx:Holds wr w.heap.size #[tv] 27
 hr:Holds wr (w.heap.size+1) #[.string ⟨#[]⟩,.slice none 0 0] 31
 ho:Holds wr (w.heap.size+1+1) #[.string nm,ev] 31
 hp:wr.ownsRow w.heap.size 9 1 pv ps.length (QBc ps)
 he:wr.ownsRow w.heap.size 39 4 ev es.length (Qha es)
 hnil:es=[]→ev=.slice none 0 0
 hT:QFb B wr b
 hK:Qaa (· = b) w wr
 hb:b<w.heap.size
 hpos:0<ps.length
 hlen:ps.length+i≤200
 hsz:∀s∈ps,s.size+100*i≤10000
 hes:Qyb es
 hel:es.length+i≤100
section
variable{B b:Nat}{w wr w':World}{tv:Value}{nm:ByteArray}{pv ev:Value}{ps:List ByteArray}{es:List Qga}{i:Nat}
theorem GoS.size(h:GoS B b w wr tv nm pv ev ps es i):w.heap.size≤wr.heap.size:=h.hK.size
theorem GoS.turn(h:GoS B b w wr tv nm pv ev ps es i)(hT':QFb B w' b)(k:Qaa (· = b) wr w'):GoS B b w w' tv nm pv ev ps es i:=by
 have hb:=h.hb;exact⟨h.hx.keeps k (by omega),h.hr.keeps k (by omega),h.ho.keeps k (by omega),Qca h.hp k (fun g hg e=>by have:=(h.hp.lt g hg).1;omega),Qca h.he k (fun g hg e=>by have:=(h.he.lt g hg).1;omega),h.hnil,hT',h.hK.trans k (fun _ _ e=>e),h.hb,h.hpos,h.hlen,h.hsz,h.hes,h.hel⟩
theorem GoS.fresh(h:GoS B b w wr tv nm pv ev ps es i)(k:Below wr.heap.size wr w'):GoS B b w w' tv nm pv ev ps es i:=
 h.turn (h.hT.keeps (Qaa.of_fresh k (fun _=>False)) (fun _ e=>e.elim)) (Qaa.of_fresh k (· = b))
theorem GoS.alloc(h:GoS B b w wr tv nm pv ev ps es i)(o:Obj):GoS B b w (wr.alloc o) tv nm pv ev ps es i:=h.fresh (Bq)
theorem GoS.other(h:GoS B b w wr tv nm pv ev ps es i){g o:Nat}{cs:Array Value}{t:TypeId}(hH:Holds wr g cs t)(hg:w.heap.size≤g)(h1:t≠27)(h2:t≠31)(h3:t≠9)(h4:t≠39∨ev.ownBlock≠some g)(x:Value):GoS B b w (wr.setCell ⟨g,o,none⟩ x) tv nm pv ev ps es i:=by
 have hb:=h.hb;have ne:∀{c:Nat} {ds:Array Value} {u:TypeId},Holds wr c ds u→t≠u→¬g=c:=fun hD Hl e=>Hl (by
  subst e;have:=hH.symm.trans hD;simp only[Option.some.injEq,Obj.cells.injEq]at this;exact this.2.1)
 have k:Qaa (· = g) wr (wr.setCell ⟨g,o,none⟩ x):=(Qaa.refl (· = g) wr).setCell (p:=⟨g,o,none⟩) (.inr rfl) x;have hP:∀c,pv.ownBlock=some c→¬c=g:=fun c hc e=>QLa h.hp hH h3 (by rw[hc,e]);have hE:∀c,ev.ownBlock=some c→¬c=g:=fun c hc e=>by
  rcases h4 with h4|h4
  ·exact QLa h.he hH h4 (by rw[hc,e])
  exact h4 (by rw[hc,e])
 exact⟨h.hx.keeps k (fun e=>ne h.hx h1 e.symm),h.hr.keeps k (fun e=>ne h.hr h2 e.symm),h.ho.keeps k (fun e=>ne h.ho h2 e.symm),Qca h.hp k hP,Qca h.he k hE,h.hnil,h.hT.keeps k (fun c e=>by have:=h.hT.1;exact⟨by omega,by omega⟩),h.hK.setCell (.inl hg) x,h.hb,h.hpos,h.hlen,h.hsz,h.hes,h.hel⟩
theorem GoS.path(h:GoS B b w wr tv nm pv ev ps es (i+1)){pv':Value}{s:ByteArray}(Hi:w'.ownsRow w.heap.size 9 1 pv' (ps.length+1) (QBc ps++[.string s]))(hg:wr.grownBy w' pv.ownBlock)(hs:s.size+100*i≤10000):GoS B b w w' tv nm pv' ev (ps++[s]) es i:=by
 have hb:=h.hb;have k:Qaa (fun c=>pv.ownBlock=some c) wr w':=Qaa.of_grown hg (fun c e=>e);have kb:Qaa (· = b) w w':=h.hK.grown hg (fun c e=>.inl (h.hp.lt c e).1);refine⟨h.hx.keeps k (QLa h.hp h.hx (by decide)),h.hr.keeps k (QLa h.hp h.hr (by decide)),h.ho.keeps k (QLa h.hp h.ho (by decide)),by rw[List.length_append];simpa[QBc]using Hi,Qca h.he k (fun c hc e=>?_),h.hnil,h.hT.keeps k (fun c e=>?_),kb,h.hb,by simp,by rw[List.length_append];have:=h.hlen;simp;omega,?_,h.hes,by have:=h.hel;omega⟩
 ·rcases Q5c h.he h.hp (by decide)with e1|e1
  ·rw[e1]at hc;cases hc
  exact e1 (by rw[hc,e])
 ·have h1:=(h.hp.lt c e).1;have:=h.hT.1;exact⟨by omega,by omega⟩
 intro x hx;rcases List.mem_append.1 hx with hx|hx
 ·have:=h.hsz x hx;omega
 rw[List.mem_singleton]at hx;subst hx;exact hs
theorem GoS.less(h:GoS B b w wr tv nm pv ev ps es (i+1)):GoS B b w wr tv nm pv ev ps es i:=
 ⟨h.hx,h.hr,h.ho,h.hp,h.he,h.hnil,h.hT,h.hK,h.hb,h.hpos,by have:=h.hlen;omega,fun s hs=>by have:=h.hsz s hs;omega,h.hes,by have:=h.hel;omega⟩
theorem GoS.mono{j:Nat}(h:GoS B b w wr tv nm pv ev ps es i)(hj:j≤i):GoS B b w wr tv nm pv ev ps es j:=
 ⟨h.hx,h.hr,h.ho,h.hp,h.he,h.hnil,h.hT,h.hK,h.hb,h.hpos,by have:=h.hlen;omega,fun s hs=>by have:=h.hsz s hs;omega,h.hes,by have:=h.hel;omega⟩
theorem GoS.put(h:GoS B b w wr tv nm pv ev ps es i){v':Value}{es':List Qga}(Hi:wr.ownsRow w.heap.size 39 4 v' es'.length (Qha es'))(Hl:es'≠[])(hz:Qyb es')(hl:es'.length+i≤100):GoS B b w (wr.setCell ⟨w.heap.size+1+1,1,none⟩ v') tv nm pv v' ps es' i:=by
 have hb:=h.hb;have k:Qaa (· = w.heap.size+1+1) wr (wr.setCell ⟨w.heap.size+1+1,1,none⟩ v'):=(Qaa.refl (· = w.heap.size+1+1) wr).setCell (p:=⟨w.heap.size+1+1,1,none⟩) (.inr rfl) v';have hT:=h.hT.1;exact⟨h.hx.keeps k (by omega),h.hr.keeps k (by omega),h.ho.set 1 v',Qca h.hp k (fun c hc e=>QLa h.hp h.ho (by decide) (by rw[hc,e])),Qca Hi k (fun c hc e=>QLa Hi h.ho (by decide) (by rw[hc,e])),fun e=>absurd e Hl,h.hT.keeps k (fun c e=>⟨by omega,by omega⟩),h.hK.setCell (.inl (show w.heap.size≤w.heap.size+1+1 by omega)) v',h.hb,h.hpos,h.hlen,h.hsz,hz,hl⟩
theorem GoS.o(h:GoS B b w wr tv nm pv ev ps es i):((wr.setCell ⟨w.heap.size+1,0,none⟩ (.string nm)).setCell ⟨w.heap.size+1,1,none⟩ ev).ownsRow w.heap.size 39 4 ev es.length (Qha es)∧QFb B ((wr.setCell ⟨w.heap.size+1,0,none⟩ (.string nm)).setCell ⟨w.heap.size+1,1,none⟩ ev) b∧Qaa (· = b) w ((wr.setCell ⟨w.heap.size+1,0,none⟩ (.string nm)).setCell ⟨w.heap.size+1,1,none⟩ ev):=by
 have hb:=h.hb;have hT:=h.hT.1;have k:Qaa (· = w.heap.size+1) wr ((wr.setCell ⟨w.heap.size+1,0,none⟩ (.string nm)).setCell ⟨w.heap.size+1,1,none⟩ ev):=((Qaa.refl (· = w.heap.size+1) wr).setCell (p:=⟨w.heap.size+1,0,none⟩) (.inr rfl) _).setCell (p:=⟨w.heap.size+1,1,none⟩) (.inr rfl) _;exact⟨Qca h.he k (fun c hc e=>QLa h.he h.hr (by decide) (by rw[hc,e])),h.hT.keeps k (fun c e=>⟨by omega,by omega⟩),(h.hK.setCell (.inl (show w.heap.size≤w.heap.size+1 by omega)) _).setCell (.inl (show w.heap.size≤w.heap.size+1 by omega)) _⟩
end
def Qdk:List UInt8:=[47,32,123,32,97,32,123,32,112,32,61,32,60,49,62,59,32,47,100,101,108,101,116,101,45,112,114,111,112,101,114,116,121,47,32,113,59,32,125,59,32,125,59]
theorem QIp:(prog.info? 5).map (fun i=>(i.zero,i.size,i.bytes))=some (some (.int .u8 0),1,1):=by kernel_rfl
theorem Qyn:QOt Qdk 0=([⟨1,⟨#[]⟩,⟨#[47]⟩,[],1,1⟩,⟨1,⟨#[]⟩,⟨#[97]⟩,[],1,5⟩,⟨3,⟨#[]⟩,⟨#[112]⟩,[⟨1,[⟨1,⟨#[]⟩⟩],⟨#[]⟩⟩],1,9⟩,⟨4,⟨#[]⟩,⟨#[113]⟩,[],1,18⟩,⟨2,⟨#[]⟩,⟨#[]⟩,[],1,39⟩,⟨2,⟨#[]⟩,⟨#[]⟩,[],1,42⟩],(0,0,0),0):=by kernel_rfl
theorem Q4q(a:Option Addr)(c:Nat)(w:World) :
 Calls prog 123 #[.slice a 0 c] w fun e w'=>e=.returned (.tuple #[.string ⟨#[]⟩,.bool true])∧Below w.heap.size w w':=by
 go_enter func123,ntmps123;go_wp2_with fail;go_loopg [11,4] 0 (fun _ x y wr=>x=.int .i64 0∧y=.slice none 0 0∧w=wr)
 case atStart=>exact⟨rfl,rfl,rfl⟩
 case round=>
  obtain⟨rfl,rfl,rfl⟩:=hrel;have Mf:=Q3c (w:=w) (base:=0) (v:=.slice none 0 0) (acc:=[]) (World.ownsRow_nil _ _ _ _);go_wp2_with fail;go_ret2;exact⟨rfl,Below.refl _ _⟩
theorem Q5q(g gc gcc c2:Nat)(w:World)(h0:w.cell? ⟨g,0,none⟩=some (.int .i64 1))(h1:w.cell? ⟨g,1,none⟩=some (.slice (some ⟨gc,0,none⟩) 1 gcc))(h2:w.cell? ⟨g,2,none⟩=some (.string ⟨#[]⟩))(k0:w.cell? ⟨gc,0,none⟩=some (.int .i64 1))(k1:w.cell? ⟨gc,1,none⟩=some (.string ⟨#[]⟩))(hg:g<w.heap.size)(hgc:gc<w.heap.size) :
 Calls prog 123 #[.slice (some ⟨g,0,none⟩) 1 c2] w fun e w'=>e=.returned (.tuple #[.string ⟨#[0,0,0,1]⟩,.bool true])∧Below w.heap.size w w':=by
 go_enter func123,ntmps123;go_wp2_with fail;go_loopg [11,4] 1 (fun f x y wr=>(x=.int .i64 0∧f=1∧w=wr∧y=.slice none 0 0)∨(x=.int .i64 1∧wr.ownsRow w.heap.size 5 1 y 4 [.int .u8 0,.int .u8 0,.int .u8 0,.int .u8 1]∧Below w.heap.size w wr))
 case atStart=>exact .inl ⟨rfl,rfl,rfl,rfl⟩
 case round=>
  rcases hrel with⟨rfl,rfl,rfl,rfl⟩|⟨rfl,Hi,hb⟩
  ·go_wp2_with fail;go_loopg [28,4] 1 (fun f x y wr=>(x=.int .i64 0∧f=1∧(w.alloc (.cells #[.int .i64 1,.slice (some ⟨gc,0,none⟩) 1 gcc,.string ⟨#[]⟩] 196))=wr∧y=.slice none 0 0)∨(x=.int .i64 1∧wr.ownsRow w.heap.size 5 1 y 4 [.int .u8 0,.int .u8 0,.int .u8 0,.int .u8 1]∧Below w.heap.size w wr))
   case atStart=>exact .inl ⟨rfl,rfl,rfl,rfl⟩
   case round=>
    rcases hrel with⟨rfl,rfl,rfl,rfl⟩|⟨rfl,Hi,hb⟩
    ·have Hc:Below w.heap.size w ((w.alloc (.cells #[.int .i64 1,.slice (some ⟨gc,0,none⟩) 1 gcc,.string ⟨#[]⟩] 196)).alloc (.cells #[.int .i64 1,.string ⟨#[]⟩] 198)):=(Bq).alloc (by simp) _;have gF:=hid Hc;clear Hc;obtain⟨i0,hi,Hz,Ho,H4⟩:=info_parts QIp;go_wp2_with(at_builtin;refine wpList_append_own _ rfl (.tmp 35) (.tmp 51) 88 rfl w.heap.size 5 i0 (.int .u8 0) 1 1 underlying88 hi Hz Ho H4 rfl (by decide) (.slice none 0 0) 0 [] rfl (World.ownsRow_nil _ _ _ _) ⟨w.heap.size+1+1,0,none⟩ 4 4 [.int .u8 0,.int .u8 0,.int .u8 0,.int .u8 1] rfl rfl ?c1 ?c2 ?c3 ?c4 ?c5 ?_)
     case c1=>exact Q8a _ _ _ _ (by simp) _ rfl
     case c2=>intro u hu;simp at hu;rcases hu with rfl|rfl <;> rfl
     case c3=>unfold maxLen;omega
     case c4=>omega
     case c5=>simp;omega
     intro v' w6 Hj Hd _;have gn:=(gF.o.alloc gF.o.size (.cells #[.int .u8 0,.int .u8 0,.int .u8 0,.int .u8 1] 5)).grown Hd (by simp;omega) (fun q hq=>by simp[Value.ownBlock]at hq);have HO:=hid Hj;have HB:=hid gn;clear Hd gn Hj;obtain⟨va,vc,hv⟩:=Qea HO.o;subst hv;go_wp2_with fail;go_roundg 0
     case measure=>omega
     case rel=>exact .inr ⟨by go_num,HO.o,HB.o⟩
    obtain⟨oa,oc,rfl⟩:=Qea Hi;have HO:=hid Hi;have HB:=hid hb;clear Hi hb;go_wp2_with fail;go_roundg 0
    case measure=>omega
    case rel=>exact .inr ⟨by go_num,HO.o,HB.o⟩
  obtain⟨oa,oc,rfl⟩:=Qea Hi;obtain⟨og,oc2,hv,pI,vi⟩:=Hi.form (by omega);cases hv;have HB:=hid hb;have Mf:=Q3c (acc:=[0,0,0,1]) Hi;go_wp2_with fail;go_ret2;exact⟨rfl,HB.o⟩
theorem Qqm{w:World}{base g cap:Nat}{op:List ByteArray}{p:ByteArray}(h:w.ownsRow base 9 1 (.slice (some ⟨g,0,none⟩) (op.length+1) cap) (op.length+1) (QBc (op++[p]))):w.ownsRow base 9 1 (.slice (some ⟨g,0,none⟩) op.length cap) op.length (QBc op):=by
 rcases h.2 with⟨e,_⟩|⟨g',cap',cur,e,hb,hh,h1,h2,h3,h4⟩
 ·cases e
 simp only[Value.slice.injEq,Option.some.injEq,Addr.mk.injEq,and_true,true_and]at e;obtain⟨rfl,rfl⟩:=e;refine⟨QOq op,.inr ⟨g,cap,cur,rfl,hb,hh,by omega,h2,h3,?_⟩⟩;have h5:=congrArg (List.take (op.length*1)) h4;rw[List.take_take]at h5;have h6:min (op.length*1) ((op.length+1)*1)=op.length*1:=by omega
 rw[h6]at h5;rw[h5];simp[QBc]
theorem Qkh{w:World}{base:Nat}{e:TypeId}{size:Nat}{a:Option Addr}{n cap:Nat}{xs:List Value}(h:w.ownsRow base e size (.slice a n cap) n xs):n≤cap∧cap≤9223372036854775807:=by
 rcases h.2 with⟨h1,rfl⟩|⟨g,cap',cur,h1,_,_,h3,h4,_⟩
 ·simp only[Value.slice.injEq]at h1;obtain⟨_,_,rfl⟩:=h1;exact⟨Nat.le_refl _,by omega⟩
 simp only[Value.slice.injEq]at h1;obtain⟨_,_,rfl⟩:=h1;unfold maxLen at h4;exact⟨h3,by omega⟩
theorem Q5h{S:Nat→Prop}{w W1:World}{rb xb:Nat}{u ev z0 z1 z2 z3:Value}(v0 v1 v2 v3:Value)(hR:Holds W1 rb #[u,ev] 120)(hX:Holds W1 xb #[z0,z1,z2,z3] 39)(Hl:¬rb=xb)(hxw:w.heap.size≤xb)(hk:Qaa S w W1) :
 Holds ((((W1.setCell ⟨xb,0,none⟩ v0).setCell ⟨xb,1,none⟩ v1).setCell ⟨xb,2,none⟩ v2).setCell ⟨xb,3,none⟩ v3) rb #[u,ev] 120∧Holds ((((W1.setCell ⟨xb,0,none⟩ v0).setCell ⟨xb,1,none⟩ v1).setCell ⟨xb,2,none⟩ v2).setCell ⟨xb,3,none⟩ v3) xb #[v0,v1,v2,v3] 39∧
  Qaa S w ((((W1.setCell ⟨xb,0,none⟩ v0).setCell ⟨xb,1,none⟩ v1).setCell ⟨xb,2,none⟩ v2).setCell ⟨xb,3,none⟩ v3)∧Qaa (· = xb) W1 ((((W1.setCell ⟨xb,0,none⟩ v0).setCell ⟨xb,1,none⟩ v1).setCell ⟨xb,2,none⟩ v2).setCell ⟨xb,3,none⟩ v3):=by
 have k:Qaa (· = xb) W1 ((((W1.setCell ⟨xb,0,none⟩ v0).setCell ⟨xb,1,none⟩ v1).setCell ⟨xb,2,none⟩ v2).setCell ⟨xb,3,none⟩ v3):=((((Qaa.refl (· = xb) W1).setCell (p:=⟨xb,0,none⟩) (.inr rfl) v0).setCell (p:=⟨xb,1,none⟩) (.inr rfl) v1).setCell (p:=⟨xb,2,none⟩) (.inr rfl) v2).setCell (p:=⟨xb,3,none⟩) (.inr rfl) v3;exact⟨hR.keeps k Hl,(((hX.set 0 v0).set 1 v1).set 2 v2).set 3 v3,hk.trans k (fun i hi e=>by omega),k⟩
theorem Qrp(rb base:Nat)(ov ev pv:Value)(nm text:ByteArray)(d4 d5 d6:Int)(w:World)
 (hR:Holds w rb #[ov,ev] 120) (hV:∀wx,Below w.heap.size w wx→Calls prog 123 #[pv] wx fun e w'=>e=.returned (.tuple #[.string text,.bool true])∧Below wx.heap.size wx w')
 (Kf:∃a n c,pv=.slice a n c) (Ht:Lib.hasPrefix nm.data.toList [38]=false) (Mi:text.size≤256) (hb:base≤w.heap.size) (K1:∃a c,ov=.slice a 0 c) :
 Calls prog 86 #[.pointer (some ⟨rb,0,none⟩),.agg #[.int .i64 1,.string ⟨#[]⟩,.string nm,pv,.int .i64 d4,.int .i64 d5,.int .i64 d6]] w fun e w'=>∃ov',e=.returned (.tuple #[.agg #[.int .i64 0,.string ⟨#[]⟩,.string ⟨#[]⟩,.string ⟨#[]⟩],.bool false,.int .i64 0])∧Holds w' rb #[ov',ev] 120∧w'.ownsRow base 9 1 ov' 1 (QBc [⟨#[47]⟩])∧Qaa (· = rb) w w':=by
 obtain⟨oa,oc,rfl⟩:=K1;obtain⟨va,vn,vc,rfl⟩:=Kf;have jM:=(Holds.new w #[.int .i64 1,.string ⟨#[]⟩,.string nm,.slice va vn vc,.int .i64 d4,.int .i64 d5,.int .i64 d6] 123).alloc (.cells #[.int .i64 0,.string ⟨#[]⟩,.string ⟨#[]⟩,.string ⟨#[]⟩] 39);have Hz:=Holds.newAt (w:=w.alloc (.cells #[.int .i64 1,.string ⟨#[]⟩,.string nm,.slice va vn vc,.int .i64 d4,.int .i64 d5,.int .i64 d6] 123)) (B:=w.heap.size+1) (by simp) #[.int .i64 0,.string ⟨#[]⟩,.string ⟨#[]⟩,.string ⟨#[]⟩] 39;have He:Below w.heap.size w ((w.alloc (.cells #[.int .i64 1,.string ⟨#[]⟩,.string nm,.slice va vn vc,.int .i64 d4,.int .i64 d5,.int .i64 d6] 123)).alloc (.cells #[.int .i64 0,.string ⟨#[]⟩,.string ⟨#[]⟩,.string ⟨#[]⟩] 39)):=(Bq).alloc (by simp) _;have jz:=hid jM;have Kr:=hid Hz;have gK:=hid He;have HV:=hid (hV _ He);have jA:=hid (fun wx=>Tryz.strings_HasPrefix nm ⟨#[38]⟩ wx);rw[show(⟨#[38]⟩:ByteArray).data.toList=[38]from rfl,Ht]at jA;have rA:¬(256:Int)<(text.size:Int):=by omega
 clear jM Hz He hV Ht;go_enter func86,ntmps86;go_wp2_with fail;refine Calls.mono (by exact HV.o) ?_;rintro e w1 ⟨rfl,Hb⟩;have Gy:=jz.o.fr Hb;have Ho:=Kr.o.fr Hb;have Hq:=hid (gK.o.trans (Hb.mono gK.o.size));have gi:=hR.fr Hq.o;have a0:=Gy.cell 0;have a1:=Gy.cell 1;have a2:=Gy.cell 2;have a3:=Gy.cell 3;have al:=Gy.lt;have z0:=Ho.cell 0;have z1:=Ho.cell 1;have z2:=Ho.cell 2;have z3:=Ho.cell 3;have zf0:=Ho.free 0;have zf1:=Ho.free 1;have zf2:=Ho.free 2;have zf3:=Ho.free 3;have zl:=Ho.lt;have r0:=gi.cell 0;have r1:=gi.cell 1;have rf0:=gi.free 0;have rf1:=gi.free 1;have rl:=gi.lt;have Kx:=hid gi;have cm:=hid Gy;have GT:=hid Ho;have hrb:¬rb=w.heap.size+1:=by have:=hR.lt;omega
 have ry:=hR.lt;clear Gy Ho Hb gi jz Kr HV hR;go_wp2_with fail;refine Calls.mono (by exact jA.o _) ?_;rintro e w2 ⟨rfl,rfl⟩;go_wp2_with fail;have hsz:=Hq.o.size;obtain⟨q1,q2,q3,q4⟩:=Q5h (w:=w) (.int .i64 0) (.string ⟨#[]⟩) (.string ⟨#[]⟩) (.string ⟨#[]⟩) (Kx.o.set 0 (.slice (some ⟨w2.heap.size,0,none⟩) 1 1)) (GT.o.other ⟨rb,0,none⟩ (.slice (some ⟨w2.heap.size,0,none⟩) 1 1) (fun e=>hrb e.symm)) hrb (by omega) ((Qaa.of_fresh Hq.o (· = rb)).setCell (p:=⟨rb,0,none⟩) (.inr rfl) _);have f0:=(q2.alloc (.cells #[.string ⟨#[47]⟩] 9)).cell 0;have f1:=(q2.alloc (.cells #[.string ⟨#[47]⟩] 9)).cell 1;have f2:=(q2.alloc (.cells #[.string ⟨#[47]⟩] 9)).cell 2;have f3:=(q2.alloc (.cells #[.string ⟨#[47]⟩] 9)).cell 3;exact bodyPost_ret (v:=.tuple #[.agg #[.int .i64 0,.string ⟨#[]⟩,.string ⟨#[]⟩,.string ⟨#[]⟩],.bool false,.int .i64 0]) (by simp[results,Tryz.results86,go_sem,f0,f1,f2,f3]) rfl ⟨_,rfl,q1.alloc _,QWd (n:=1) (size:=1) (cs:=#[.string ⟨#[47]⟩]) (by simp) (by omega) rfl (by omega),q3.alloc _⟩
theorem QVm(rb base:Nat)(ov ev pv:Value)(nm text:ByteArray)(d4 d5 d6:Int)(op:List ByteArray)(p:ByteArray)(w:World)
 (hR:Holds w rb #[ov,ev] 120) (hV:∀wx,Below w.heap.size w wx→Calls prog 123 #[pv] wx fun e w'=>e=.returned (.tuple #[.string text,.bool true])∧Below wx.heap.size wx w')
 (Kf:∃a n c,pv=.slice a n c) (Ht:Lib.hasPrefix nm.data.toList [38]=false) (Mi:text.size≤256) (hb:base≤w.heap.size) (K1:w.ownsRow base 9 1 ov (op.length+1) (QBc (op++[p]))) (KG:op.length≤1000) :
 Calls prog 86 #[.pointer (some ⟨rb,0,none⟩),.agg #[.int .i64 2,.string ⟨#[]⟩,.string nm,pv,.int .i64 d4,.int .i64 d5,.int .i64 d6]] w fun e w'=>∃ov',e=.returned (.tuple #[.agg #[.int .i64 0,.string ⟨#[]⟩,.string ⟨#[]⟩,.string ⟨#[]⟩],.bool false,.int .i64 0])∧Holds w' rb #[ov',ev] 120∧w'.ownsRow base 9 1 ov' op.length (QBc op)∧Qaa (· = rb) w w':=by
 obtain⟨og,oc,rfl,aV,Hf⟩:=K1.form (by omega);have dR:=hid K1;have aW:=Qkh K1;have AG:¬og=rb:=fun e=>QLa K1 hR (by decide) (by rw[e];rfl);clear K1;obtain⟨va,vn,vc,rfl⟩:=Kf;have jM:=(Holds.new w #[.int .i64 2,.string ⟨#[]⟩,.string nm,.slice va vn vc,.int .i64 d4,.int .i64 d5,.int .i64 d6] 123).alloc (.cells #[.int .i64 0,.string ⟨#[]⟩,.string ⟨#[]⟩,.string ⟨#[]⟩] 39);have Hz:=Holds.newAt (w:=w.alloc (.cells #[.int .i64 2,.string ⟨#[]⟩,.string nm,.slice va vn vc,.int .i64 d4,.int .i64 d5,.int .i64 d6] 123)) (B:=w.heap.size+1) (by simp) #[.int .i64 0,.string ⟨#[]⟩,.string ⟨#[]⟩,.string ⟨#[]⟩] 39;have He:Below w.heap.size w ((w.alloc (.cells #[.int .i64 2,.string ⟨#[]⟩,.string nm,.slice va vn vc,.int .i64 d4,.int .i64 d5,.int .i64 d6] 123)).alloc (.cells #[.int .i64 0,.string ⟨#[]⟩,.string ⟨#[]⟩,.string ⟨#[]⟩] 39)):=(Bq).alloc (by simp) _;have jz:=hid jM;have Kr:=hid Hz;have gK:=hid He;have HV:=hid (hV _ He);have jA:=hid (fun wx=>Tryz.strings_HasPrefix nm ⟨#[38]⟩ wx);rw[show(⟨#[38]⟩:ByteArray).data.toList=[38]from rfl,Ht]at jA;have rA:¬(256:Int)<(text.size:Int):=by omega
 clear jM Hz He hV Ht;go_enter func86,ntmps86;go_wp2_with fail;refine Calls.mono (by exact HV.o) ?_;rintro e w1 ⟨rfl,Hb⟩;have Gy:=jz.o.fr Hb;have Ho:=Kr.o.fr Hb;have Hq:=hid (gK.o.trans (Hb.mono gK.o.size));have gi:=hR.fr Hq.o;have a0:=Gy.cell 0;have a1:=Gy.cell 1;have a2:=Gy.cell 2;have a3:=Gy.cell 3;have al:=Gy.lt;have z0:=Ho.cell 0;have z1:=Ho.cell 1;have z2:=Ho.cell 2;have z3:=Ho.cell 3;have zf0:=Ho.free 0;have zf1:=Ho.free 1;have zf2:=Ho.free 2;have zf3:=Ho.free 3;have zl:=Ho.lt;have r0:=gi.cell 0;have r1:=gi.cell 1;have rf0:=gi.free 0;have rf1:=gi.free 1;have rl:=gi.lt;have Kx:=hid gi;have cm:=hid Gy;have GT:=hid Ho;have hrb:¬rb=w.heap.size+1:=by have:=hR.lt;omega
 have ry:=hR.lt;clear Gy Ho Hb gi jz Kr HV hR;go_wp2_with fail;refine Calls.mono (by exact jA.o _) ?_;rintro e w2 ⟨rfl,rfl⟩;go_wp2_with fail;go_region;go_wp2_with fail;have hsz:=Hq.o.size;obtain⟨q1,q2,q3,q4⟩:=Q5h (w:=w) (.int .i64 0) (.string ⟨#[]⟩) (.string ⟨#[]⟩) (.string ⟨#[]⟩) (Kx.o.set 0 (.slice (some ⟨og,0,none⟩) op.length oc)) (GT.o.other ⟨rb,0,none⟩ (.slice (some ⟨og,0,none⟩) op.length oc) (fun e=>hrb e.symm)) hrb (by omega) ((Qaa.of_fresh Hq.o (· = rb)).setCell (p:=⟨rb,0,none⟩) (.inr rfl) _);have f0:=q2.drew.cell 0;have f1:=q2.drew.cell 1;have f2:=q2.drew.cell 2;have f3:=q2.drew.cell 3;exact bodyPost_ret (v:=.tuple #[.agg #[.int .i64 0,.string ⟨#[]⟩,.string ⟨#[]⟩,.string ⟨#[]⟩],.bool false,.int .i64 0]) (by simp[results,Tryz.results86,go_sem,f0,f1,f2,f3]) rfl ⟨_,rfl,q1.drew,Qca (Qqm dR.o) q3.drew (fun g hg e=>by cases hg;exact AG e),q3.drew⟩
theorem Qpp(rb base:Nat)(ov ev pv:Value)(nm text:ByteArray)(d4 d5 d6:Int)(op:List ByteArray)(p:ByteArray)(w:World)
 (hR:Holds w rb #[ov,ev] 120) (hV:∀wx,Below w.heap.size w wx→Calls prog 123 #[pv] wx fun e w'=>e=.returned (.tuple #[.string text,.bool true])∧Below wx.heap.size wx w')
 (Kf:∃a n c,pv=.slice a n c) (Ht:Lib.hasPrefix nm.data.toList [38]=false) (Mi:text.size≤256) (hb:base≤w.heap.size) (K1:w.ownsRow base 9 1 ov (op.length+1) (QBc (op++[p]))) (KG:op.length≤1000) :
 Calls prog 86 #[.pointer (some ⟨rb,0,none⟩),.agg #[.int .i64 3,.string ⟨#[]⟩,.string nm,pv,.int .i64 d4,.int .i64 d5,.int .i64 d6]] w fun e w'=>e=.returned (.tuple #[.agg #[.int .i64 2,.string p,.string nm,.string text],.bool true,.int .i64 0])∧Holds w' rb #[ov,ev] 120∧Qaa (· = rb) w w':=by
 obtain⟨og,oc,rfl,aV,Hf⟩:=K1.form (by omega);have dR:=hid K1;have aW:=Qkh K1;clear K1;obtain⟨va,vn,vc,rfl⟩:=Kf;have jM:=(Holds.new w #[.int .i64 3,.string ⟨#[]⟩,.string nm,.slice va vn vc,.int .i64 d4,.int .i64 d5,.int .i64 d6] 123).alloc (.cells #[.int .i64 0,.string ⟨#[]⟩,.string ⟨#[]⟩,.string ⟨#[]⟩] 39);have Hz:=Holds.newAt (w:=w.alloc (.cells #[.int .i64 3,.string ⟨#[]⟩,.string nm,.slice va vn vc,.int .i64 d4,.int .i64 d5,.int .i64 d6] 123)) (B:=w.heap.size+1) (by simp) #[.int .i64 0,.string ⟨#[]⟩,.string ⟨#[]⟩,.string ⟨#[]⟩] 39;have He:Below w.heap.size w ((w.alloc (.cells #[.int .i64 3,.string ⟨#[]⟩,.string nm,.slice va vn vc,.int .i64 d4,.int .i64 d5,.int .i64 d6] 123)).alloc (.cells #[.int .i64 0,.string ⟨#[]⟩,.string ⟨#[]⟩,.string ⟨#[]⟩] 39)):=(Bq).alloc (by simp) _;have jz:=hid jM;have Kr:=hid Hz;have gK:=hid He;have HV:=hid (hV _ He);have jA:=hid (fun wx=>Tryz.strings_HasPrefix nm ⟨#[38]⟩ wx);rw[show(⟨#[38]⟩:ByteArray).data.toList=[38]from rfl,Ht]at jA;have rA:¬(256:Int)<(text.size:Int):=by omega
 clear jM Hz He hV Ht;go_enter func86,ntmps86;go_wp2_with fail;refine Calls.mono (by exact HV.o) ?_;rintro e w1 ⟨rfl,Hb⟩;have Gy:=jz.o.fr Hb;have Ho:=Kr.o.fr Hb;have Hq:=hid (gK.o.trans (Hb.mono gK.o.size));have gi:=hR.fr Hq.o;have a0:=Gy.cell 0;have a1:=Gy.cell 1;have a2:=Gy.cell 2;have a3:=Gy.cell 3;have al:=Gy.lt;have z0:=Ho.cell 0;have z1:=Ho.cell 1;have z2:=Ho.cell 2;have z3:=Ho.cell 3;have zf0:=Ho.free 0;have zf1:=Ho.free 1;have zf2:=Ho.free 2;have zf3:=Ho.free 3;have zl:=Ho.lt;have r0:=gi.cell 0;have r1:=gi.cell 1;have rf0:=gi.free 0;have rf1:=gi.free 1;have rl:=gi.lt;have Kx:=hid gi;have cm:=hid Gy;have GT:=hid Ho;have hrb:¬rb=w.heap.size+1:=by have:=hR.lt;omega
 have ry:=hR.lt;clear Gy Ho Hb gi jz Kr HV hR;go_wp2_with fail;refine Calls.mono (by exact jA.o _) ?_;rintro e w2 ⟨rfl,rfl⟩;have ML:=Qbb dR.o Hq.o;have gB:w2.cell? ⟨og,op.length,none⟩=some (.string p):=by
  rw[ML.cellAt _ (by omega)];simp[QBc]
 have iv:=World.block_lt_of_cell? w2 _ gB;have yj:¬((op.length:Int)+1=0):=by omega
 have qY:(op.length:Int)<(op.length:Int)+1:=by omega
 have qZ:IntKind.i64.wrap (op.length:Int)=(op.length:Int):=IntWalk.i64_in _ (by omega);clear ML;go_wp2_with fail;go_region;go_wp2_with fail;have hsz:=Hq.o.size;obtain⟨q1,q2,q3,_⟩:=Q5h (w:=w) (.int .i64 2) (.string p) (.string nm) (.string text) Kx.o GT.o hrb (by omega) (Qaa.of_fresh Hq.o (· = rb));obtain⟨u1,u2,u3,_⟩:=Q5h (w:=w) (.int .i64 2) (.string p) (.string nm) (.string text) q1 q2 hrb (by omega) q3;have f0:=u2.drew.cell 0;have f1:=u2.drew.cell 1;have f2:=u2.drew.cell 2;have f3:=u2.drew.cell 3;exact bodyPost_ret (v:=.tuple #[.agg #[.int .i64 2,.string p,.string nm,.string text],.bool true,.int .i64 0]) (by simp[results,Tryz.results86,go_sem,f0,f1,f2,f3]) rfl ⟨rfl,u1.drew,u3.drew⟩
theorem QPr(rb base:Nat)(ov ev pv:Value)(nm text:ByteArray)(d4 d5 d6:Int)(op:List ByteArray)(p:ByteArray)(w:World)
 (hR:Holds w rb #[ov,ev] 120) (hV:∀wx,Below w.heap.size w wx→Calls prog 123 #[pv] wx fun e w'=>e=.returned (.tuple #[.string text,.bool true])∧Below wx.heap.size wx w')
 (Kf:∃a n c,pv=.slice a n c) (Ht:Lib.hasPrefix nm.data.toList [38]=false) (Mi:text.size≤256) (hb:base≤w.heap.size) (K1:w.ownsRow base 9 1 ov (op.length+1) (QBc (op++[p]))) (KG:op.length≤1000) :
 Calls prog 86 #[.pointer (some ⟨rb,0,none⟩),.agg #[.int .i64 4,.string ⟨#[]⟩,.string nm,pv,.int .i64 d4,.int .i64 d5,.int .i64 d6]] w fun e w'=>e=.returned (.tuple #[.agg #[.int .i64 3,.string p,.string nm,.string text],.bool true,.int .i64 0])∧Holds w' rb #[ov,ev] 120∧Qaa (· = rb) w w':=by
 obtain⟨og,oc,rfl,aV,Hf⟩:=K1.form (by omega);have dR:=hid K1;have aW:=Qkh K1;clear K1;obtain⟨va,vn,vc,rfl⟩:=Kf;have jM:=(Holds.new w #[.int .i64 4,.string ⟨#[]⟩,.string nm,.slice va vn vc,.int .i64 d4,.int .i64 d5,.int .i64 d6] 123).alloc (.cells #[.int .i64 0,.string ⟨#[]⟩,.string ⟨#[]⟩,.string ⟨#[]⟩] 39);have Hz:=Holds.newAt (w:=w.alloc (.cells #[.int .i64 4,.string ⟨#[]⟩,.string nm,.slice va vn vc,.int .i64 d4,.int .i64 d5,.int .i64 d6] 123)) (B:=w.heap.size+1) (by simp) #[.int .i64 0,.string ⟨#[]⟩,.string ⟨#[]⟩,.string ⟨#[]⟩] 39;have He:Below w.heap.size w ((w.alloc (.cells #[.int .i64 4,.string ⟨#[]⟩,.string nm,.slice va vn vc,.int .i64 d4,.int .i64 d5,.int .i64 d6] 123)).alloc (.cells #[.int .i64 0,.string ⟨#[]⟩,.string ⟨#[]⟩,.string ⟨#[]⟩] 39)):=(Bq).alloc (by simp) _;have jz:=hid jM;have Kr:=hid Hz;have gK:=hid He;have HV:=hid (hV _ He);have jA:=hid (fun wx=>Tryz.strings_HasPrefix nm ⟨#[38]⟩ wx);rw[show(⟨#[38]⟩:ByteArray).data.toList=[38]from rfl,Ht]at jA;have rA:¬(256:Int)<(text.size:Int):=by omega
 clear jM Hz He hV Ht;go_enter func86,ntmps86;go_wp2_with fail;refine Calls.mono (by exact HV.o) ?_;rintro e w1 ⟨rfl,Hb⟩;have Gy:=jz.o.fr Hb;have Ho:=Kr.o.fr Hb;have Hq:=hid (gK.o.trans (Hb.mono gK.o.size));have gi:=hR.fr Hq.o;have a0:=Gy.cell 0;have a1:=Gy.cell 1;have a2:=Gy.cell 2;have a3:=Gy.cell 3;have al:=Gy.lt;have z0:=Ho.cell 0;have z1:=Ho.cell 1;have z2:=Ho.cell 2;have z3:=Ho.cell 3;have zf0:=Ho.free 0;have zf1:=Ho.free 1;have zf2:=Ho.free 2;have zf3:=Ho.free 3;have zl:=Ho.lt;have r0:=gi.cell 0;have r1:=gi.cell 1;have rf0:=gi.free 0;have rf1:=gi.free 1;have rl:=gi.lt;have Kx:=hid gi;have cm:=hid Gy;have GT:=hid Ho;have hrb:¬rb=w.heap.size+1:=by have:=hR.lt;omega
 have ry:=hR.lt;clear Gy Ho Hb gi jz Kr HV hR;go_wp2_with fail;refine Calls.mono (by exact jA.o _) ?_;rintro e w2 ⟨rfl,rfl⟩;have ML:=Qbb dR.o Hq.o;have gB:w2.cell? ⟨og,op.length,none⟩=some (.string p):=by
  rw[ML.cellAt _ (by omega)];simp[QBc]
 have iv:=World.block_lt_of_cell? w2 _ gB;have yj:¬((op.length:Int)+1=0):=by omega
 have qY:(op.length:Int)<(op.length:Int)+1:=by omega
 have qZ:IntKind.i64.wrap (op.length:Int)=(op.length:Int):=IntWalk.i64_in _ (by omega);clear ML;go_wp2_with fail;go_region;go_wp2_with fail;have hsz:=Hq.o.size;obtain⟨q1,q2,q3,_⟩:=Q5h (w:=w) (.int .i64 2) (.string p) (.string nm) (.string text) Kx.o GT.o hrb (by omega) (Qaa.of_fresh Hq.o (· = rb));have q2:=q2.set 0 (.int .i64 3);have q1:=q1.other ⟨w.heap.size+1,0,none⟩ (.int .i64 3) hrb;have q3:=q3.setCell (p:=⟨w.heap.size+1,0,none⟩) (.inl (show w.heap.size≤w.heap.size+1 by omega)) (.int .i64 3);obtain⟨u1,u2,u3,_⟩:=Q5h (w:=w) (.int .i64 3) (.string p) (.string nm) (.string text) q1 q2 hrb (by omega) q3;have f0:=u2.drew.cell 0;have f1:=u2.drew.cell 1;have f2:=u2.drew.cell 2;have f3:=u2.drew.cell 3;exact bodyPost_ret (v:=.tuple #[.agg #[.int .i64 3,.string p,.string nm,.string text],.bool true,.int .i64 0]) (by simp[results,Tryz.results86,go_sem,f0,f1,f2,f3]) rfl ⟨rfl,u1.drew,u3.drew⟩
noncomputable def Qyi:Array Oper:=(QPa (Tryz.f86.body.getD .skip) 14).getD #[]
theorem oeR:Q0b .any Qyi=true:=by kernel_rfl
theorem Q2j:QRb Qyi=true:=by kernel_rfl
theorem QIu:Qyi.size=18:=by kernel_rfl
def OeF(rb db og n n1 oc:Nat)(_ _:Value)(nm p t0 t1 s:ByteArray)(_ _ _:Int)(j:Nat):Value→World→Prop:=match j with
 | 0=>fun u _=>u=.pointer (some ⟨rb,0,none⟩)
 | 1=>fun u _=>u=.pointer (some ⟨rb,0,none⟩)
 | 2=>fun u _=>u=.pointer (some ⟨rb,0,none⟩)
 | 3=>fun u _=>u=.slice (some ⟨og,0,none⟩) n1 oc
 | 4=>fun u _=>u=.pointer (some ⟨rb,0,none⟩)
 | 5=>fun u _=>u=.pointer (some ⟨rb,0,none⟩)
 | 6=>fun u _=>u=.pointer (some ⟨rb,0,none⟩)
 | 7=>fun u _=>u=.slice (some ⟨og,0,none⟩) n1 oc
 | 8=>fun u _=>u=.int .i64 (n1:Int)
 | 9=>fun u _=>u=.int .i64 (n:Int)
 | 10=>fun u _=>u=.pointer (some ⟨og,n,none⟩)
 | 11=>fun u _=>u=.string p
 | 12=>fun u _=>u=.string t0
 | 13=>fun u _=>u=.string t1
 | 14=>fun u _=>u=.pointer (some ⟨db,2,none⟩)
 | 15=>fun u _=>u=.string nm
 | 16=>fun u _=>u=.string s
 | 17=>fun u _=>u=.string s
 | _=>fun _ _=>True
def OeC(rb db og n n1 oc:Nat)(ev pv:Value)(nm p _ _ _:ByteArray)(d4 d5 d6:Int)(w:World):Prop:=Holds w rb #[.slice (some ⟨og,0,none⟩) n1 oc,ev] 120∧Holds w db #[.int .i64 1,.string ⟨#[]⟩,.string nm,pv,.int .i64 d4,.int .i64 d5,.int .i64 d6] 123∧w.cell? ⟨og,n,none⟩=some (.string p)
section
variable{rb db og n n1 oc:Nat}{ev pv:Value}{nm p t0 t1 s:ByteArray}{d4 d5 d6:Int}{w w':World}
end
theorem Qem{Q:Exit→Act→World→Prop}(rb db og n n1 oc:Nat)(ev pv:Value)(nm p t0 t1 s:ByteArray)(d4 d5 d6:Int)(W w:World)(A:Act)(hsz:A.tmps.size=125)(Mq:Hid (n1=n+1))(Kc:n≤1000)(fX:Hid (∀wx:World,(Op.stringOp .add t0 ⟨#[47]⟩).run prog wx=.ok (.string t1) wx))(lq:Hid (∀wx:World,(Op.stringOp .add t1 nm).run prog wx=.ok (.string s) wx))(hts:Hid (∀wx,Calls prog 125 #[.string p,.string ⟨#[47]⟩] wx fun e w'=>e=.returned (.string t0)∧w'=wx))
 (a0:A.tmps.getD 0 undef=.pointer (some ⟨rb,0,none⟩)) (a3:A.tmps.getD 3 undef=.pointer (some ⟨db,0,none⟩)) (hC0:OeC rb db og n n1 oc ev pv nm p t0 t1 s d4 d5 d6 W) (hE0:Below W.heap.size W w)
 (hQ:∀c w',Qpb Qyi A c→c.tmps.getD 9 undef=.string s→Below W.heap.size W w'→Q .normal c w') :
 wpAny prog .any Qyi Q Qyi.size (Array.replicate Qyi.size false) A w:=by
 refine QNa (fun l c wx=>Qsb Qyi A (OeF rb db og n n1 oc ev pv nm p t0 t1 s d4 d5 d6) (fun _=>True) l c wx∧Below W.heap.size W wx) oeR ?hend ?Hk _ _ _ _ (by simp) (by simp) ⟨Qsb.start trivial,hE0⟩
 case hend=>
  rintro l c wx ⟨hI,hS⟩ hl;have hh:∀k,k<18→l.getD k false=true:=fun k hk=>hl k (by rw[QIu];exact hk);exact hQ c wx hI.1.1 (hI.fact 17 9 rfl (hh 17 (by decide))) hS
 intro l c wx KV i' op ho hl Ha K' hK';obtain⟨hI,hS⟩:=KV;have ke:l.size=18:=by rw[hI.1.2.2.1.1,QIu]
 have hi':i'<18:=by rw[←QIu];exact(Array.getElem?_eq_some_iff.1 ho).1
 have Hf:=ho;simp only[Qyi,QPa,Tryz.f86,Option.getD_some,reduceIte,Nat.reduceEqDiff]at ho;have s0:=(hI.slot 0 (by kernel_rfl)).trans a0;have s3:=(hI.slot 3 (by kernel_rfl)).trans a3;have fs:=And.intro True.intro True.intro;simp only[Array.getD_eq_getD_getElem?]at s0 s3;have GB:i'=0∨i'=1∨i'=2∨i'=3∨i'=4∨i'=5∨i'=6∨i'=7∨i'=8∨i'=9∨i'=10∨i'=11∨i'=12∨i'=13∨i'=14∨i'=15∨i'=16∨i'=17:=by omega
 clear hi';rcases GB with rfl|rfl|rfl|rfl|rfl|rfl|rfl|rfl|rfl|rfl|rfl|rfl|rfl|rfl|rfl|rfl|rfl|rfl
 all_goals cases ho
 ·go_simp;exact hK' _ _ ⟨hI.st Q2j 0 75 hsz Hf Ha rfl,hS⟩
 ·have f0:c.tmps.getD 75 undef=.pointer (some ⟨rb,0,none⟩):=hI.yf 0 75 18 Hf Ha;have e0:=gE f0;go_simp;exact hK' _ _ ⟨hI.st Q2j 1 76 hsz Hf Ha rfl,hS⟩
 ·have f1:c.tmps.getD 76 undef=.pointer (some ⟨rb,0,none⟩):=hI.yf 1 76 18 Hf Ha;have e1:=gE f1;go_simp;exact hK' _ _ ⟨hI.st Q2j 2 77 hsz Hf Ha rfl,hS⟩
 ·have f2:c.tmps.getD 77 undef=.pointer (some ⟨rb,0,none⟩):=hI.yf 2 77 18 Hf Ha;have e2:=gE f2;have hc:OeC rb db og n n1 oc ev pv nm p t0 t1 s d4 d5 d6 wx:=⟨hC0.1.fr hS,hC0.2.1.fr hS,((Qaa.of_fresh hS (fun _=>False)).cell (p:=⟨og,n,none⟩) (World.block_lt_of_cell? W _ hC0.2.2) (fun e=>e)).trans hC0.2.2⟩;have x0:=hc.1.cell 0;have xl:=hc.1.lt;go_simp;exact hK' _ _ ⟨hI.st Q2j 3 78 hsz Hf Ha rfl,hS⟩
 ·go_simp;exact hK' _ _ ⟨hI.st Q2j 4 79 hsz Hf Ha rfl,hS⟩
 ·have f4:c.tmps.getD 79 undef=.pointer (some ⟨rb,0,none⟩):=hI.yf 4 79 18 Hf Ha;have e4:=gE f4;go_simp;exact hK' _ _ ⟨hI.st Q2j 5 80 hsz Hf Ha rfl,hS⟩
 ·have f5:c.tmps.getD 80 undef=.pointer (some ⟨rb,0,none⟩):=hI.yf 5 80 18 Hf Ha;have e5:=gE f5;go_simp;exact hK' _ _ ⟨hI.st Q2j 6 81 hsz Hf Ha rfl,hS⟩
 ·have f6:c.tmps.getD 81 undef=.pointer (some ⟨rb,0,none⟩):=hI.yf 6 81 18 Hf Ha;have e6:=gE f6;have hc:OeC rb db og n n1 oc ev pv nm p t0 t1 s d4 d5 d6 wx:=⟨hC0.1.fr hS,hC0.2.1.fr hS,((Qaa.of_fresh hS (fun _=>False)).cell (p:=⟨og,n,none⟩) (World.block_lt_of_cell? W _ hC0.2.2) (fun e=>e)).trans hC0.2.2⟩;have x0:=hc.1.cell 0;have xl:=hc.1.lt;go_simp;exact hK' _ _ ⟨hI.st Q2j 7 82 hsz Hf Ha rfl,hS⟩
 ·have f7:c.tmps.getD 82 undef=.slice (some ⟨og,0,none⟩) n1 oc:=hI.yf 7 82 18 Hf Ha;have e7:=gE f7;go_simp;exact hK' _ _ ⟨hI.st Q2j 8 83 hsz Hf Ha rfl,hS⟩
 ·have f8:c.tmps.getD 83 undef=.int .i64 (n1:Int):=hI.yf 8 83 18 Hf Ha;have e8:=gE f8;have hc:OeC rb db og n n1 oc ev pv nm p t0 t1 s d4 d5 d6 wx:=⟨hC0.1.fr hS,hC0.2.1.fr hS,((Qaa.of_fresh hS (fun _=>False)).cell (p:=⟨og,n,none⟩) (World.block_lt_of_cell? W _ hC0.2.2) (fun e=>e)).trans hC0.2.2⟩;have hw:IntKind.i64.wrap ((n1:Int)-1)=(n:Int):=by rw[IntWalk.i64_in _ (by have:=Mq.o;omega)];have:=Mq.o;omega
  go_simp;exact hK' _ _ ⟨hI.st Q2j 9 84 hsz Hf Ha rfl,hS⟩
 ·have f3:c.tmps.getD 78 undef=.slice (some ⟨og,0,none⟩) n1 oc:=hI.yf 3 78 18 Hf Ha;have e3:=gE f3;have f9:c.tmps.getD 84 undef=.int .i64 (n:Int):=hI.yf 9 84 18 Hf Ha;have e9:=gE f9;have hc:OeC rb db og n n1 oc ev pv nm p t0 t1 s d4 d5 d6 wx:=⟨hC0.1.fr hS,hC0.2.1.fr hS,((Qaa.of_fresh hS (fun _=>False)).cell (p:=⟨og,n,none⟩) (World.block_lt_of_cell? W _ hC0.2.2) (fun e=>e)).trans hC0.2.2⟩;have fY:(n:Int)<(n1:Int):=by have:=Mq.o;omega
  go_simp;exact hK' _ _ ⟨hI.st Q2j 10 85 hsz Hf Ha rfl,hS⟩
 ·have f10:c.tmps.getD 85 undef=.pointer (some ⟨og,n,none⟩):=hI.yf 10 85 18 Hf Ha;have e10:=gE f10;have hc:OeC rb db og n n1 oc ev pv nm p t0 t1 s d4 d5 d6 wx:=⟨hC0.1.fr hS,hC0.2.1.fr hS,((Qaa.of_fresh hS (fun _=>False)).cell (p:=⟨og,n,none⟩) (World.block_lt_of_cell? W _ hC0.2.2) (fun e=>e)).trans hC0.2.2⟩;have x0:=hc.2.2;have xl:=World.block_lt_of_cell? wx _ hc.2.2;go_simp;exact hK' _ _ ⟨hI.st Q2j 11 86 hsz Hf Ha rfl,hS⟩
 ·have f11:c.tmps.getD 86 undef=.string p:=hI.yf 11 86 18 Hf Ha;have e11:=gE f11;have hc:OeC rb db og n n1 oc ev pv nm p t0 t1 s d4 d5 d6 wx:=⟨hC0.1.fr hS,hC0.2.1.fr hS,((Qaa.of_fresh hS (fun _=>False)).cell (p:=⟨og,n,none⟩) (World.block_lt_of_cell? W _ hC0.2.2) (fun e=>e)).trans hC0.2.2⟩;go_simp;refine(hts.o wx).mono ?_;rintro e w2 ⟨rfl,rfl⟩;exact hK' _ _ ⟨hI.st Q2j 12 87 hsz Hf Ha rfl,hS⟩
 ·have f12:c.tmps.getD 87 undef=.string t0:=hI.yf 12 87 18 Hf Ha;have e12:=gE f12;have hc:OeC rb db og n n1 oc ev pv nm p t0 t1 s d4 d5 d6 wx:=⟨hC0.1.fr hS,hC0.2.1.fr hS,((Qaa.of_fresh hS (fun _=>False)).cell (p:=⟨og,n,none⟩) (World.block_lt_of_cell? W _ hC0.2.2) (fun e=>e)).trans hC0.2.2⟩;have ka:=fX.o;go_simp;exact hK' _ _ ⟨hI.st Q2j 13 88 hsz Hf Ha rfl,hS⟩
 ·go_simp;exact hK' _ _ ⟨hI.st Q2j 14 89 hsz Hf Ha rfl,hS⟩
 ·have f14:c.tmps.getD 89 undef=.pointer (some ⟨db,2,none⟩):=hI.yf 14 89 18 Hf Ha;have e14:=gE f14;have hc:OeC rb db og n n1 oc ev pv nm p t0 t1 s d4 d5 d6 wx:=⟨hC0.1.fr hS,hC0.2.1.fr hS,((Qaa.of_fresh hS (fun _=>False)).cell (p:=⟨og,n,none⟩) (World.block_lt_of_cell? W _ hC0.2.2) (fun e=>e)).trans hC0.2.2⟩;have x0:=hc.2.1.cell 2;have xl:=hc.2.1.lt;go_simp;exact hK' _ _ ⟨hI.st Q2j 15 90 hsz Hf Ha rfl,hS⟩
 ·have f13:c.tmps.getD 88 undef=.string t1:=hI.yf 13 88 18 Hf Ha;have e13:=gE f13;have f15:c.tmps.getD 90 undef=.string nm:=hI.yf 15 90 18 Hf Ha;have e15:=gE f15;have hc:OeC rb db og n n1 oc ev pv nm p t0 t1 s d4 d5 d6 wx:=⟨hC0.1.fr hS,hC0.2.1.fr hS,((Qaa.of_fresh hS (fun _=>False)).cell (p:=⟨og,n,none⟩) (World.block_lt_of_cell? W _ hC0.2.2) (fun e=>e)).trans hC0.2.2⟩;have ka:=lq.o;go_simp;exact hK' _ _ ⟨hI.st Q2j 16 91 hsz Hf Ha rfl,hS⟩
 have f16:c.tmps.getD 91 undef=.string s:=hI.yf 16 91 18 Hf Ha;have e16:=gE f16;go_simp;exact hK' _ _ ⟨hI.st Q2j 17 9 hsz Hf Ha rfl,hS⟩
end Go.Proofs.YtgaboghigefgbaaGreatDoor
