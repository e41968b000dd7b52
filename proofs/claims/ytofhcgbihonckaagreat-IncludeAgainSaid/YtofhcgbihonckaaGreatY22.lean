/- The tape of bringupmake: a list of numbers, read one by one; what it holds does not matter. | The tape: Range and Pick. | The tape: Number. -/
import Derived.Test.YtofhcgbihonckaaGreatY2
import Derived.WalkLawsBesides
import Derived.Deep.QuietTactic
import Derived.BigQuiet
set_option linter.all false
set_option maxHeartbeats 8000000
namespace Go.Proofs.YtofhcgbihonckaaGreat
open Go.RowKit
def I64(n:Int):Prop := -9223372036854775808≤n∧n≤9223372036854775807
def QBd(B:Nat)(w:World)(b:Nat):Prop:=
 B≤b∧∃(a:Option Addr) (len cap at_:Nat),Qca w b #[.slice a len cap,.int .i64 at_] 56∧at_≤len∧len≤500∧
  (0<len→∃g o,a=some ⟨g,o,none⟩∧g<B∧∀i,i<len→∃n,w.cell? ⟨g,o+i,none⟩=some (.int .i64 n)∧I64 n)
theorem QBd.keeps{B b:Nat}{w w':World}{S:Nat→Prop}(h:QBd B w b)(k:Qaa S w w')(hs:∀i,S i→B≤i∧i≠b):QBd B w' b:=by
 obtain⟨hB,a,len,cap,at_,hH,h1,h2,h3⟩:=h
 refine⟨hB,a,len,cap,at_,hH.keeps k (fun e=>(hs b e).2 rfl),h1,h2,?_⟩
 intro hl
 obtain⟨g,o,rfl,hg,hc⟩:=h3 hl
 refine⟨g,o,rfl,hg,fun i hi=>?_⟩
 obtain⟨n,hn,hb⟩:=hc i hi
 exact⟨n,(k.cell (p:=⟨g,o+i,none⟩) (World.block_lt_of_cell? w _ hn) (fun e=>by have:=(hs g e).1;omega)).trans hn,hb⟩
theorem QBd.lt{B b:Nat}{w:World}(h:QBd B w b):b<w.heap.size:=by
 obtain⟨_,_,_,_,_,hH,_⟩:=h;exact hH.lt
theorem QKp(B b:Nat)(w:World)(h:QBd B w b) :
 Calls Tryz.prog 43 #[.pointer (some ⟨b,0,none⟩)] w fun e w'=>∃n,e = .returned (.int .i64 n)∧I64 n∧QBd B w' b∧Qaa (· = b) w w':=by
 have hT:=h
 obtain⟨hB,a,len,cap,at_,hH,h1,h2,h3⟩:=h
 have c0:w.cell? ⟨b,0,none⟩=some (.slice a len cap):=hH.cell 0
 have c1:w.cell? ⟨b,1,none⟩=some (.int .i64 at_):=hH.cell 1
 have f1:=hH.free 1
 by_cases Hj:at_<len
 ·obtain⟨g,o,rfl,hg,hc⟩:=h3 (by omega)
  obtain⟨n,hn,hb⟩:=hc at_ Hj
  have HC:=Lib.hid hc;clear hc h3
  go_enter Tryz.func43,Tryz.ntmps43
  go_wp2
  go_quiet (fail)
  go_wp2
  go_quiet (fail)
  go_wp2
  go_ret
  refine⟨n,rfl,hb,?_,((Qaa.refl (fun i=>i=b) w).drewN _ |>.setCell (.inr rfl) _).drewN _⟩
  refine⟨hB,some ⟨g,o,none⟩,len,cap,at_+1,((hH.drewN _).set 1 _).drewN _,Hj,h2,fun _=>⟨g,o,rfl,hg,fun i hi=>?_⟩⟩
  obtain⟨m,hm,bM⟩:=HC.out i hi
  exact⟨m,(World.cell?_setCell_other _ _ _ _ (by intro e;have:=congrArg Addr.block e;simp at this;omega)).trans hm,bM⟩
 ·have MM:len≤at_:=by omega
  go_enter Tryz.func43,Tryz.ntmps43
  go_wp2
  go_quiet (fail)
  go_wp2
  go_ret
  exact⟨0,rfl,⟨by decide,by decide⟩,hT.keeps ((Qaa.refl (fun _=>False) w).drewN _) (fun _ e=>e.elim),(Qaa.refl _ w).drewN _⟩
theorem QIp(x n:Int)(w:World)(hx:I64 x)(hn:1≤n)(Ju:n≤4611686018427387904) :
 Calls Tryz.prog 42 #[.int .i64 x,.int .i64 n] w fun e w'=>∃r,e = .returned (.int .i64 r)∧0≤r∧r<n∧w=w':=by
 obtain⟨x0,x1⟩:=hx
 have ss:-n<x.tmod n:=by have:=Int.tmod_lt_of_pos (-x) (show 0<n by omega);rw[Int.neg_tmod]at this;omega
 have lG:x.tmod n<n:=Int.tmod_lt_of_pos x (by omega)
 by_cases hneg:x.tmod n<0
 ·go_enter Tryz.func42,Tryz.ntmps42
  go_wp2
  go_ret
  exact⟨_,rfl,by omega,by omega,rfl⟩
 ·go_enter Tryz.func42,Tryz.ntmps42
  go_wp2
  go_ret
  exact⟨_,rfl,by omega,by omega,rfl⟩
theorem Qih(B b:Nat)(n:Int)(w:World)(h:QBd B w b)(hn:1≤n)(Ju:n≤4611686018427387904) :
 Calls Tryz.prog 21 #[.pointer (some ⟨b,0,none⟩),.int .i64 n] w fun e w'=>∃r,e = .returned (.int .i64 r)∧0≤r∧r<n∧QBd B w' b∧Qaa (· = b) w w':=by
 go_enter Tryz.func21,Tryz.ntmps21
 go_wp2_with fail
 refine(QKp B b _ h).mono ?_
 rintro e w1 ⟨x,rfl,hx,hT,hK⟩
 go_wp2_with fail
 refine(QIp x n _ hx hn Ju).mono ?_
 rintro e w2 ⟨r,rfl,r0,r1,rfl⟩
 go_wp2_with fail
 go_ret
 exact⟨r,rfl,r0,r1,hT,hK⟩
theorem QEe(l:List ByteArray)(r:Nat)(h:r<l.length):∃s,l[r]? = some s∧s∈l:=⟨l[r],by simp[h],List.getElem_mem h⟩
def QVk(w:World)(a:Option Addr)(len:Nat):Prop:=
 0<len→∃g o,a=some ⟨g,o,none⟩∧∀i,i<len→∃n,w.cell? ⟨g,o+i,none⟩=some (.int .i64 n)∧I64 n
theorem QJp(a:Option Addr)(len cap:Nat)(w:World)(hi:QVk w a len)(nL:len≤cap)(hcap:cap≤maxLen)(az:a=none→len=0∧cap=0) :
 Calls Tryz.prog 8 #[.slice a len cap] w fun e w'=>∃b,e = .returned (.pointer (some ⟨b,0,none⟩))∧QBd w.heap.size w' b∧Below w.heap.size w w':=by
 unfold maxLen at hcap
 go_enter Tryz.func8,Tryz.ntmps8
 by_cases h5:len≤500
 ·go_wp2
  go_ret
  refine⟨w.heap.size,rfl,⟨Nat.le_refl _,a,len,cap,0,Qca.new w _ _,by omega,h5,fun hl=>?_⟩,(Below.refl _ _).alloc (Nat.le_refl _) _⟩
  obtain⟨g,o,rfl,hc⟩:=hi hl
  obtain⟨n0,MN,_⟩:=hc 0 hl
  have hg:g<w.heap.size:=World.block_lt_of_cell? w _ MN
  refine⟨g,o,rfl,hg,fun i hi=>?_⟩
  obtain⟨n,hn,hb⟩:=hc i hi
  exact⟨n,(((Qaa.refl (fun _=>False) w).alloc _).cell (p:=⟨g,o+i,none⟩) hg (fun e=>e)).trans hn,hb⟩
 ·have h5':500<len:=by omega
  go_wp2
  go_ret
  refine⟨w.heap.size,rfl,⟨Nat.le_refl _,a,500,cap,0,Qca.new w _ _,by omega,by omega,fun hl=>?_⟩,(Below.refl _ _).alloc (Nat.le_refl _) _⟩
  obtain⟨g,o,rfl,hc⟩:=hi (by omega)
  obtain⟨n0,MN,_⟩:=hc 0 (by omega)
  have hg:g<w.heap.size:=World.block_lt_of_cell? w _ MN
  refine⟨g,o,rfl,hg,fun i hi=>?_⟩
  obtain⟨n,hn,hb⟩:=hc i (by omega)
  exact⟨n,(((Qaa.refl (fun _=>False) w).alloc _).cell (p:=⟨g,o+i,none⟩) hg (fun e=>e)).trans hn,hb⟩
theorem QHe{w:World}{a:Option Addr}{len cap:Nat}{zs:List Int}
 (h:(a=none∧len=0∧cap=0∧zs=[])∨∃x,a=some x∧len≤cap∧cap≤maxLen∧zs.length=cap∧(∀i,i<zs.length→w.cell? (x.add i)=some (.int .i64 (zs.getD i 0)))∧∀n∈zs,(Lit.int .i64 n).wf=true) :
 QVk w a len∧len≤cap∧cap≤maxLen∧(a=none→len=0∧cap=0):=by
 rcases h with⟨rfl,rfl,rfl,rfl⟩|⟨x,rfl,hl,hm,hz,hc,hw⟩
 ·exact⟨fun h=>absurd h (by omega),by omega,by unfold maxLen;omega,fun _=>⟨rfl,rfl⟩⟩
 ·refine⟨fun h0=>?_,hl,hm,fun e=>by cases e⟩
  obtain⟨g,o,sp⟩:=x
  have uC:sp=none:=by simpa[Addr.add]using World.cell?_spot (hc 0 (by omega))
  subst uC
  refine⟨g,o,rfl,fun i hi=>?_⟩
  have:=hc i (by omega)
  have mU:(⟨g,o,none⟩:Addr).add i=⟨g,o+i,none⟩:=by unfold Addr.add;split <;> simp_all
  rw[mU]at this
  refine⟨_,this,?_⟩
  have pZ:zs.getD i 0∈zs:=by
   have hi':i<zs.length:=by omega
   rw[List.getD_eq_getElem?_getD,List.getElem?_eq_getElem hi'];exact List.getElem_mem hi'
  have:=hw _ pZ
  simp[Lit.wf,IntKind.min,IntKind.max,IntKind.signed,IntKind.bits]at this
  exact this
def Qmk:List ByteArray:=[⟨#[97]⟩,⟨#[98]⟩,⟨#[99]⟩,⟨#[99,112,117]⟩,⟨#[99,108,107]⟩,⟨#[98,117,115,64,49,48]⟩,⟨#[100,101,118,64,50]⟩,⟨#[120,95,49]⟩,⟨#[122]⟩]
set_option maxRecDepth 100000 in
theorem QYf(B b:Nat)(w:World)(h:QBd B w b) :
 Calls Tryz.prog 47 #[.pointer (some ⟨b,0,none⟩)] w fun e w'=>∃s,e = .returned (.string s)∧s∈Qmk∧QBd B w' b∧Qaa (· = b) w w':=by
 have Hj:=h.lt
 go_enter Tryz.func47,Tryz.ntmps47
 go_wp2_with fail
 refine(Qih B b 9 _ (h.keeps ((Qaa.refl (fun _=>False) w).alloc _) (fun _ e=>e.elim)) (by omega) (by omega)).mono ?_
 rintro e w1 ⟨r,rfl,r0,r1,hT,hK⟩
 obtain⟨r,rfl⟩:=Int.eq_ofNat_of_zero_le r0
 have hH:=(Qca.new w (Qmk.map Value.string).toArray 9).keeps hK (by omega)
 obtain⟨s,gW,gE⟩:=QEe Qmk r (by have:Qmk.length=9:=rfl;omega)
 have hc:w1.cell? ⟨w.heap.size,r,none⟩=some (.string s):=(hH.cell r).trans (by simp[gW])
 have ga:Qaa (fun i=>i=b) w w1:=((Qaa.refl (fun i=>i=b) w).alloc _).trans hK (fun _ _ e=>e)
 go_wp2_with fail
 go_ret
 exact⟨s,rfl,gE,hT,ga⟩
def Q5c:List ByteArray:=[⟨#[114,101,103]⟩,⟨#[99,111,109,112,97,116,105,98,108,101]⟩,⟨#[115,116,97,116,117,115]⟩,⟨#[99,108,111,99,107,115]⟩,⟨#[35,99,101,108,108,115]⟩,⟨#[112]⟩,⟨#[113]⟩,⟨#[108,97,98,101,108]⟩,⟨#[118,97,108,117,101]⟩]
set_option maxRecDepth 100000 in
theorem Qfe(B b:Nat)(w:World)(h:QBd B w b) :
 Calls Tryz.prog 45 #[.pointer (some ⟨b,0,none⟩)] w fun e w'=>∃s,e = .returned (.string s)∧s∈Q5c∧QBd B w' b∧Qaa (· = b) w w':=by
 have Hj:=h.lt
 go_enter Tryz.func45,Tryz.ntmps45
 go_wp2_with fail
 refine(Qih B b 9 _ (h.keeps ((Qaa.refl (fun _=>False) w).alloc _) (fun _ e=>e.elim)) (by omega) (by omega)).mono ?_
 rintro e w1 ⟨r,rfl,r0,r1,hT,hK⟩
 obtain⟨r,rfl⟩:=Int.eq_ofNat_of_zero_le r0
 have hH:=(Qca.new w (Q5c.map Value.string).toArray 9).keeps hK (by omega)
 obtain⟨s,gW,gE⟩:=QEe Q5c r (by have:Q5c.length=9:=rfl;omega)
 have hc:w1.cell? ⟨w.heap.size,r,none⟩=some (.string s):=(hH.cell r).trans (by simp[gW])
 have ga:Qaa (fun i=>i=b) w w1:=((Qaa.refl (fun i=>i=b) w).alloc _).trans hK (fun _ _ e=>e)
 go_wp2_with fail
 go_ret
 exact⟨s,rfl,gE,hT,ga⟩
theorem Qjh(B b:Nat)(lo hi:Int)(w:World)(h:QBd B w b)(h0:-1000≤lo)(h1:lo≤hi)(h2:hi≤4611686018427387) :
 Calls Tryz.prog 30 #[.pointer (some ⟨b,0,none⟩),.int .i64 lo,.int .i64 hi] w fun e w'=>∃r,e = .returned (.int .i64 r)∧lo≤r∧r≤hi∧QBd B w' b∧Qaa (· = b) w w':=by
 go_enter Tryz.func30,Tryz.ntmps30
 go_wp2_with fail
 refine(Qih B b (hi-lo+1) _ h (by omega) (by omega)).mono ?_
 rintro e w1 ⟨r,rfl,r0,r1,hT,hK⟩
 go_wp2_with fail
 go_ret
 exact⟨_,rfl,by omega,by omega,hT,hK⟩
theorem Qwo(B b g o cap:Nat)(l:List Int)(w:World)(h:QBd B w b)(h0:0<l.length)(h1:l.length≤1000)(Hq:g≠b)(hc:∀(i:Nat) (h:i<l.length),w.cell? ⟨g,o+i,none⟩=some (.int .i64 l[i])) :
 Calls Tryz.prog 144 #[.pointer (some ⟨b,0,none⟩),.slice (some ⟨g,o,none⟩) l.length cap] w fun e w'=>∃r,e = .returned (.int .i64 r)∧r∈l∧QBd B w' b∧Qaa (· = b) w w':=by
 have HC:=Lib.hid hc;clear hc
 go_enter Tryz.func144,Tryz.ntmps144
 go_wp2_with fail
 refine(Qih B b l.length _ h (by omega) (by omega)).mono ?_
 rintro e w1 ⟨r,rfl,r0,r1,hT,hK⟩
 obtain⟨k,rfl⟩:=Int.eq_ofNat_of_zero_le r0
 have hk:k<l.length:=by omega
 have kE:w1.cell? ⟨g,o+k,none⟩=some (.int .i64 l[k]):=(hK.cell (p:=⟨g,o+k,none⟩) (World.block_lt_of_cell? w _ (HC.out k hk)) Hq).trans (HC.out k hk)
 go_wp2_with fail
 go_ret
 exact⟨_,rfl,List.getElem_mem hk,hT,hK⟩
theorem Qoj(l:List Int)(i:Nat)(h:i<l.length):((l.map (Value.int .i64)).toArray)[i]? = some (.int .i64 l[i]):=by simp[h]
theorem Qfi(B b:Nat)(w:World)(h:QBd B w b) :
 Calls Tryz.prog 132 #[.pointer (some ⟨b,0,none⟩)] w fun e w'=>∃r,e = .returned (.int .i64 r)∧0≤r∧r≤4294967295∧QBd B w' b∧Qaa (· = b) w w':=by
 go_enter Tryz.func132,Tryz.ntmps132
 go_wp2_with fail
 refine(Qjh B b 0 300 _ h (by omega) (by omega) (by omega)).mono ?_
 rintro e w1 ⟨r1,rfl,ha,hb,Kl,gZ⟩
 go_wp2_with fail
 refine(Qjh B b 0 4294967295 _ Kl (by omega) (by omega) (by omega)).mono ?_
 rintro e w2 ⟨r2,rfl,hc,hd,gX,ga⟩
 have Hj:=gX.lt
 have gv:Below w2.heap.size w2 (w2.alloc (.cells #[.int .i64 0,.int .i64 1,.int .i64 2,.int .i64 3,.int .i64 5,.int .i64 31,.int .i64 32,.int .i64 r1,.int .i64 4294967295,.int .i64 2147483648,.int .i64 r2] 3)):=(Below.refl _ _).alloc (Nat.le_refl _) _
 have ku:=gX.keeps (Qaa.of_fresh gv (fun _=>False)) (fun _ e=>e.elim)
 have hH:=Qca.new w2 (([0,1,2,3,5,31,32,r1,4294967295,2147483648,r2]:List Int).map (Value.int .i64)).toArray 3
 have hc':∀(i:Nat) (h:i<([0,1,2,3,5,31,32,r1,4294967295,2147483648,r2]:List Int).length),(w2.alloc (.cells #[.int .i64 0,.int .i64 1,.int .i64 2,.int .i64 3,.int .i64 5,.int .i64 31,.int .i64 32,.int .i64 r1,.int .i64 4294967295,.int .i64 2147483648,.int .i64 r2] 3)).cell? ⟨w2.heap.size,0+i,none⟩=some (.int .i64 ([0,1,2,3,5,31,32,r1,4294967295,2147483648,r2]:List Int)[i]):=by
  intro i hi
  rw[Nat.zero_add]
  exact(hH.cell i).trans (Qoj _ i hi)
 have hp:=Lib.hid (Qwo B b w2.heap.size 0 11 [0,1,2,3,5,31,32,r1,4294967295,2147483648,r2] _ ku (by simp) (by simp) (by omega) hc')
 have ny:=gZ.trans ga (fun _ _ e=>e)
 clear Kl gX ku hH hc' h gZ ga
 go_wp2_with fail
 refine(hp.out).mono ?_
 rintro e w4 ⟨r,rfl,hr,K6,Gn⟩
 go_wp2_with fail
 go_ret
 have gG:0≤r∧r≤4294967295:=by simp at hr;omega
 exact⟨r,rfl,gG.1,gG.2,K6,(ny.trans (Qaa.of_fresh gv (fun i=>i=b)) (fun _ _ e=>e)).trans Gn (fun _ _ e=>e)⟩
end Go.Proofs.YtofhcgbihonckaaGreat
