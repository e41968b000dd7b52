/- The tape of bringupmake: a list of numbers, read one by one; what it holds does not matter. | The tape: Range and Pick. | The tape: Number. -/
import Derived.Test.YtgaboghigefgbaaGreatDoorZ2
import Derived.WalkLawsBesides
import Derived.Deep.QuietTactic
import Derived.BigQuiet
set_option linter.all false
set_option maxHeartbeats 8000000
namespace Go.Proofs.YtgaboghigefgbaaGreatDoor
open Go.RowKit
def I64(n:Int):Prop := -9223372036854775808≤n∧n≤9223372036854775807
def Qtc(B:Nat)(w:World)(b:Nat):Prop:=
 B≤b∧∃(a:Option Addr) (len cap at_:Nat),Holds w b #[.slice a len cap,.int .i64 at_] 63∧at_≤len∧len≤500∧
  (0<len→∃g o,a=some ⟨g,o,none⟩∧g<B∧∀i,i<len→∃n,w.cell? ⟨g,o+i,none⟩=some (.int .i64 n)∧I64 n)
theorem Qtc.keeps{B b:Nat}{w w':World}{S:Nat→Prop}(h:Qtc B w b)(k:Qaa S w w')(hs:∀i,S i→B≤i∧i≠b):Qtc B w' b:=by
 obtain⟨hB,a,len,cap,at_,hH,h1,h2,h3⟩:=h
 refine⟨hB,a,len,cap,at_,hH.keeps k (fun e=>(hs b e).2 rfl),h1,h2,?_⟩
 intro hl
 obtain⟨g,o,rfl,hg,hc⟩:=h3 hl
 refine⟨g,o,rfl,hg,fun i hi=>?_⟩
 obtain⟨n,hn,hb⟩:=hc i hi
 exact⟨n,(k.cell (p:=⟨g,o+i,none⟩) (World.block_lt_of_cell? w _ hn) (fun e=>by have:=(hs g e).1;omega)).trans hn,hb⟩
theorem Qtc.lt{B b:Nat}{w:World}(h:Qtc B w b):b<w.heap.size:=by
 obtain⟨_,_,_,_,_,hH,_⟩:=h;exact hH.lt
theorem QTt(B b:Nat)(w:World)(h:Qtc B w b) :
 Calls Tryz.prog 61 #[.pointer (some ⟨b,0,none⟩)] w fun e w'=>∃n,e = .returned (.int .i64 n)∧I64 n∧Qtc B w' b∧Qaa (· = b) w w':=by
 have hT:=h
 obtain⟨hB,a,len,cap,at_,hH,h1,h2,h3⟩:=h
 have c0:w.cell? ⟨b,0,none⟩=some (.slice a len cap):=hH.cell 0
 have c1:w.cell? ⟨b,1,none⟩=some (.int .i64 at_):=hH.cell 1
 have f1:=hH.free 1
 by_cases Hh:at_<len
 ·obtain⟨g,o,rfl,hg,hc⟩:=h3 (by omega)
  obtain⟨n,hn,hb⟩:=hc at_ Hh
  have HC:=Lib.hid hc;clear hc h3
  go_enter Tryz.func61,Tryz.ntmps61
  go_wp2
  go_quiet (fail)
  go_wp2
  go_quiet (fail)
  go_wp2
  go_ret
  refine⟨n,rfl,hb,?_,((Qaa.refl (fun i=>i=b) w).drewN _ |>.setCell (.inr rfl) _).drewN _⟩
  refine⟨hB,some ⟨g,o,none⟩,len,cap,at_+1,((hH.drewN _).set 1 _).drewN _,Hh,h2,fun _=>⟨g,o,rfl,hg,fun i hi=>?_⟩⟩
  obtain⟨m,hm,vj⟩:=HC.out i hi
  exact⟨m,(World.cell?_setCell_other _ _ _ _ (by intro e;have:=congrArg Addr.block e;simp at this;omega)).trans hm,vj⟩
 ·have pD:len≤at_:=by omega
  go_enter Tryz.func61,Tryz.ntmps61
  go_wp2
  go_quiet (fail)
  go_wp2
  go_ret
  exact⟨0,rfl,⟨by decide,by decide⟩,hT.keeps ((Qaa.refl (fun _=>False) w).drewN _) (fun _ e=>e.elim),(Qaa.refl _ w).drewN _⟩
theorem QSt(x n:Int)(w:World)(hx:I64 x)(hn:1≤n)(jn:n≤4611686018427387904) :
 Calls Tryz.prog 60 #[.int .i64 x,.int .i64 n] w fun e w'=>∃r,e = .returned (.int .i64 r)∧0≤r∧r<n∧w=w':=by
 obtain⟨x0,x1⟩:=hx
 have hm0:-n<x.tmod n:=by have:=Int.tmod_lt_of_pos (-x) (show 0<n by omega);rw[Int.neg_tmod]at this;omega
 have C8:x.tmod n<n:=Int.tmod_lt_of_pos x (by omega)
 by_cases hneg:x.tmod n<0
 ·go_enter Tryz.func60,Tryz.ntmps60
  go_wp2
  go_ret
  exact⟨_,rfl,by omega,by omega,rfl⟩
 ·go_enter Tryz.func60,Tryz.ntmps60
  go_wp2
  go_ret
  exact⟨_,rfl,by omega,by omega,rfl⟩
theorem Qnl(B b:Nat)(n:Int)(w:World)(h:Qtc B w b)(hn:1≤n)(jn:n≤4611686018427387904) :
 Calls Tryz.prog 27 #[.pointer (some ⟨b,0,none⟩),.int .i64 n] w fun e w'=>∃r,e = .returned (.int .i64 r)∧0≤r∧r<n∧Qtc B w' b∧Qaa (· = b) w w':=by
 go_enter Tryz.func27,Tryz.ntmps27
 go_wp2_with fail
 refine(QTt B b _ h).mono ?_
 rintro e w1 ⟨x,rfl,hx,hT,hK⟩
 go_wp2_with fail
 refine(QSt x n _ hx hn jn).mono ?_
 rintro e w2 ⟨r,rfl,r0,r1,rfl⟩
 go_wp2_with fail
 go_ret
 exact⟨r,rfl,r0,r1,hT,hK⟩
theorem Qnh(l:List ByteArray)(r:Nat)(h:r<l.length):∃s,l[r]? = some s∧s∈l:=⟨l[r],by simp[h],List.getElem_mem h⟩
def QVj(w:World)(a:Option Addr)(len:Nat):Prop:=
 0<len→∃g o,a=some ⟨g,o,none⟩∧∀i,i<len→∃n,w.cell? ⟨g,o+i,none⟩=some (.int .i64 n)∧I64 n
theorem QHp(a:Option Addr)(len cap:Nat)(w:World)(hi:QVj w a len)(eT:len≤cap)(hcap:cap≤maxLen)(hnil:a=none→len=0∧cap=0) :
 Calls Tryz.prog 7 #[.slice a len cap] w fun e w'=>∃b,e = .returned (.pointer (some ⟨b,0,none⟩))∧Qtc w.heap.size w' b∧Below w.heap.size w w':=by
 unfold maxLen at hcap
 go_enter Tryz.func7,Tryz.ntmps7
 by_cases h5:len≤500
 ·go_wp2
  go_ret
  refine⟨w.heap.size,rfl,⟨Nat.le_refl _,a,len,cap,0,Holds.new w _ _,by omega,h5,fun hl=>?_⟩,(Below.refl _ _).alloc (Nat.le_refl _) _⟩
  obtain⟨g,o,rfl,hc⟩:=hi hl
  obtain⟨n0,Jz,_⟩:=hc 0 hl
  have hg:g<w.heap.size:=World.block_lt_of_cell? w _ Jz
  refine⟨g,o,rfl,hg,fun i hi=>?_⟩
  obtain⟨n,hn,hb⟩:=hc i hi
  exact⟨n,(((Qaa.refl (fun _=>False) w).alloc _).cell (p:=⟨g,o+i,none⟩) hg (fun e=>e)).trans hn,hb⟩
 ·have h5':500<len:=by omega
  go_wp2
  go_ret
  refine⟨w.heap.size,rfl,⟨Nat.le_refl _,a,500,cap,0,Holds.new w _ _,by omega,by omega,fun hl=>?_⟩,(Below.refl _ _).alloc (Nat.le_refl _) _⟩
  obtain⟨g,o,rfl,hc⟩:=hi (by omega)
  obtain⟨n0,Jz,_⟩:=hc 0 (by omega)
  have hg:g<w.heap.size:=World.block_lt_of_cell? w _ Jz
  refine⟨g,o,rfl,hg,fun i hi=>?_⟩
  obtain⟨n,hn,hb⟩:=hc i (by omega)
  exact⟨n,(((Qaa.refl (fun _=>False) w).alloc _).cell (p:=⟨g,o+i,none⟩) hg (fun e=>e)).trans hn,hb⟩
theorem QVb{w:World}{a:Option Addr}{len cap:Nat}{zs:List Int}
 (h:(a=none∧len=0∧cap=0∧zs=[])∨∃x,a=some x∧len≤cap∧cap≤maxLen∧zs.length=cap∧(∀i,i<zs.length→w.cell? (x.add i)=some (.int .i64 (zs.getD i 0)))∧∀n∈zs,(Lit.int .i64 n).wf=true) :
 QVj w a len∧len≤cap∧cap≤maxLen∧(a=none→len=0∧cap=0):=by
 rcases h with⟨rfl,rfl,rfl,rfl⟩|⟨x,rfl,hl,hm,hz,hc,hw⟩
 ·exact⟨fun h=>absurd h (by omega),by omega,by unfold maxLen;omega,fun _=>⟨rfl,rfl⟩⟩
 ·refine⟨fun h0=>?_,hl,hm,fun e=>by cases e⟩
  obtain⟨g,o,sp⟩:=x
  have Dn:sp=none:=by simpa[Addr.add]using World.cell?_spot (hc 0 (by omega))
  subst Dn
  refine⟨g,o,rfl,fun i hi=>?_⟩
  have:=hc i (by omega)
  have Gq:(⟨g,o,none⟩:Addr).add i=⟨g,o+i,none⟩:=by unfold Addr.add;split <;> simp_all
  rw[Gq]at this
  refine⟨_,this,?_⟩
  have mD:zs.getD i 0∈zs:=by
   have hi':i<zs.length:=by omega
   rw[List.getD_eq_getElem?_getD,List.getElem?_eq_getElem hi'];exact List.getElem_mem hi'
  have:=hw _ mD
  simp[Lit.wf,IntKind.min,IntKind.max,IntKind.signed,IntKind.bits]at this
  exact this
def Quk:List ByteArray:=[⟨#[97]⟩,⟨#[98]⟩,⟨#[99]⟩,⟨#[99,112,117]⟩,⟨#[99,108,107]⟩,⟨#[98,117,115,64,49,48]⟩,⟨#[100,101,118,64,50]⟩,⟨#[120,95,49]⟩,⟨#[122]⟩]
set_option maxRecDepth 100000 in
theorem QZl(B b:Nat)(w:World)(h:Qtc B w b) :
 Calls Tryz.prog 34 #[.pointer (some ⟨b,0,none⟩)] w fun e w'=>∃s,e = .returned (.string s)∧s∈Quk∧Qtc B w' b∧Qaa (· = b) w w':=by
 have Hh:=h.lt
 go_enter Tryz.func34,Tryz.ntmps34
 go_wp2_with fail
 refine(Qnl B b 9 _ (h.keeps ((Qaa.refl (fun _=>False) w).alloc _) (fun _ e=>e.elim)) (by omega) (by omega)).mono ?_
 rintro e w1 ⟨r,rfl,r0,r1,hT,hK⟩
 obtain⟨r,rfl⟩:=Int.eq_ofNat_of_zero_le r0
 have hH:=(Holds.new w (Quk.map Value.string).toArray 9).keeps hK (by omega)
 obtain⟨s,ko,GB⟩:=Qnh Quk r (by have:Quk.length=9:=rfl;omega)
 have hc:w1.cell? ⟨w.heap.size,r,none⟩=some (.string s):=(hH.cell r).trans (by simp[ko])
 have gf:Qaa (fun i=>i=b) w w1:=((Qaa.refl (fun i=>i=b) w).alloc _).trans hK (fun _ _ e=>e)
 go_wp2_with fail
 go_ret
 exact⟨s,rfl,GB,hT,gf⟩
def Q2d:List ByteArray:=[⟨#[114,101,103]⟩,⟨#[99,111,109,112,97,116,105,98,108,101]⟩,⟨#[115,116,97,116,117,115]⟩,⟨#[99,108,111,99,107,115]⟩,⟨#[35,99,101,108,108,115]⟩,⟨#[112]⟩,⟨#[113]⟩,⟨#[108,97,98,101,108]⟩,⟨#[118,97,108,117,101]⟩]
set_option maxRecDepth 100000 in
theorem QIf(B b:Nat)(w:World)(h:Qtc B w b) :
 Calls Tryz.prog 31 #[.pointer (some ⟨b,0,none⟩)] w fun e w'=>∃s,e = .returned (.string s)∧s∈Q2d∧Qtc B w' b∧Qaa (· = b) w w':=by
 have Hh:=h.lt
 go_enter Tryz.func31,Tryz.ntmps31
 go_wp2_with fail
 refine(Qnl B b 9 _ (h.keeps ((Qaa.refl (fun _=>False) w).alloc _) (fun _ e=>e.elim)) (by omega) (by omega)).mono ?_
 rintro e w1 ⟨r,rfl,r0,r1,hT,hK⟩
 obtain⟨r,rfl⟩:=Int.eq_ofNat_of_zero_le r0
 have hH:=(Holds.new w (Q2d.map Value.string).toArray 9).keeps hK (by omega)
 obtain⟨s,ko,GB⟩:=Qnh Q2d r (by have:Q2d.length=9:=rfl;omega)
 have hc:w1.cell? ⟨w.heap.size,r,none⟩=some (.string s):=(hH.cell r).trans (by simp[ko])
 have gf:Qaa (fun i=>i=b) w w1:=((Qaa.refl (fun i=>i=b) w).alloc _).trans hK (fun _ _ e=>e)
 go_wp2_with fail
 go_ret
 exact⟨s,rfl,GB,hT,gf⟩
theorem Qkh(B b:Nat)(lo hi:Int)(w:World)(h:Qtc B w b)(h0:-1000≤lo)(h1:lo≤hi)(h2:hi≤4611686018427387) :
 Calls Tryz.prog 33 #[.pointer (some ⟨b,0,none⟩),.int .i64 lo,.int .i64 hi] w fun e w'=>∃r,e = .returned (.int .i64 r)∧lo≤r∧r≤hi∧Qtc B w' b∧Qaa (· = b) w w':=by
 go_enter Tryz.func33,Tryz.ntmps33
 go_wp2_with fail
 refine(Qnl B b (hi-lo+1) _ h (by omega) (by omega)).mono ?_
 rintro e w1 ⟨r,rfl,r0,r1,hT,hK⟩
 go_wp2_with fail
 go_ret
 exact⟨_,rfl,by omega,by omega,hT,hK⟩
theorem QJp(B b g o cap:Nat)(l:List Int)(w:World)(h:Qtc B w b)(h0:0<l.length)(h1:l.length≤1000)(Hm:g≠b)(hc:∀(i:Nat) (h:i<l.length),w.cell? ⟨g,o+i,none⟩=some (.int .i64 l[i])) :
 Calls Tryz.prog 48 #[.pointer (some ⟨b,0,none⟩),.slice (some ⟨g,o,none⟩) l.length cap] w fun e w'=>∃r,e = .returned (.int .i64 r)∧r∈l∧Qtc B w' b∧Qaa (· = b) w w':=by
 have HC:=Lib.hid hc;clear hc
 go_enter Tryz.func48,Tryz.ntmps48
 go_wp2_with fail
 refine(Qnl B b l.length _ h (by omega) (by omega)).mono ?_
 rintro e w1 ⟨r,rfl,r0,r1,hT,hK⟩
 obtain⟨k,rfl⟩:=Int.eq_ofNat_of_zero_le r0
 have hk:k<l.length:=by omega
 have gE:w1.cell? ⟨g,o+k,none⟩=some (.int .i64 l[k]):=(hK.cell (p:=⟨g,o+k,none⟩) (World.block_lt_of_cell? w _ (HC.out k hk)) Hm).trans (HC.out k hk)
 go_wp2_with fail
 go_ret
 exact⟨_,rfl,List.getElem_mem hk,hT,hK⟩
theorem Qei(l:List Int)(i:Nat)(h:i<l.length):((l.map (Value.int .i64)).toArray)[i]? = some (.int .i64 l[i]):=by simp[h]
theorem QIp(B b:Nat)(w:World)(h:Qtc B w b) :
 Calls Tryz.prog 68 #[.pointer (some ⟨b,0,none⟩)] w fun e w'=>∃r,e = .returned (.int .i64 r)∧0≤r∧r≤4294967295∧Qtc B w' b∧Qaa (· = b) w w':=by
 go_enter Tryz.func68,Tryz.ntmps68
 go_wp2_with fail
 refine(Qkh B b 0 300 _ h (by omega) (by omega) (by omega)).mono ?_
 rintro e w1 ⟨r1,rfl,ha,hb,GE,Gg⟩
 go_wp2_with fail
 refine(Qkh B b 0 4294967295 _ GE (by omega) (by omega) (by omega)).mono ?_
 rintro e w2 ⟨r2,rfl,hc,hd,Gx,gf⟩
 have Hh:=Gx.lt
 have Hi:Below w2.heap.size w2 (w2.alloc (.cells #[.int .i64 0,.int .i64 1,.int .i64 2,.int .i64 3,.int .i64 5,.int .i64 31,.int .i64 32,.int .i64 r1,.int .i64 4294967295,.int .i64 2147483648,.int .i64 r2] 3)):=(Below.refl _ _).alloc (Nat.le_refl _) _
 have Kj:=Gx.keeps (Qaa.of_fresh Hi (fun _=>False)) (fun _ e=>e.elim)
 have hH:=Holds.new w2 (([0,1,2,3,5,31,32,r1,4294967295,2147483648,r2]:List Int).map (Value.int .i64)).toArray 3
 have hc':∀(i:Nat) (h:i<([0,1,2,3,5,31,32,r1,4294967295,2147483648,r2]:List Int).length),(w2.alloc (.cells #[.int .i64 0,.int .i64 1,.int .i64 2,.int .i64 3,.int .i64 5,.int .i64 31,.int .i64 32,.int .i64 r1,.int .i64 4294967295,.int .i64 2147483648,.int .i64 r2] 3)).cell? ⟨w2.heap.size,0+i,none⟩=some (.int .i64 ([0,1,2,3,5,31,32,r1,4294967295,2147483648,r2]:List Int)[i]):=by
  intro i hi
  rw[Nat.zero_add]
  exact(hH.cell i).trans (Qei _ i hi)
 have hp:=Lib.hid (QJp B b w2.heap.size 0 11 [0,1,2,3,5,31,32,r1,4294967295,2147483648,r2] _ Kj (by simp) (by simp) (by omega) hc')
 have Jq:=Gg.trans gf (fun _ _ e=>e)
 clear GE Gx Kj hH hc' h Gg gf
 go_wp2_with fail
 refine(hp.out).mono ?_
 rintro e w4 ⟨r,rfl,hr,Mz,kW⟩
 go_wp2_with fail
 go_ret
 have gd:0≤r∧r≤4294967295:=by simp at hr;omega
 exact⟨r,rfl,gd.1,gd.2,Mz,(Jq.trans (Qaa.of_fresh Hi (fun i=>i=b)) (fun _ _ e=>e)).trans kW (fun _ _ e=>e)⟩
end Go.Proofs.YtgaboghigefgbaaGreatDoor
