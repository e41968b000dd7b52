/- The tape of bringupmake: a list of numbers, read one by one; what it holds does not matter. | The tape: Range and Pick. | The tape: Number. -/
import Derived.Test.YtofhcgbihonckaaGreatZ1
import Derived.WalkLawsBesides
import Derived.Deep.QuietTactic
import Derived.BigQuiet
set_option linter.all false
set_option maxHeartbeats 8000000
namespace Go.Proofs.YtofhcgbihonckaaGreat
open Go.RowKit
def I64(n:Int):Prop := -9223372036854775808≤n∧n≤9223372036854775807
def Q3c(B:Nat)(w:World)(b:Nat):Prop:=
 B≤b∧∃(a:Option Addr) (len cap at_:Nat),Qca w b #[.slice a len cap,.int .i64 at_] 56∧at_≤len∧len≤500∧
  (0<len→∃g o,a=some ⟨g,o,none⟩∧g<B∧∀i,i<len→∃n,w.cell? ⟨g,o+i,none⟩=some (.int .i64 n)∧I64 n)
theorem Q3c.keeps{B b:Nat}{w w':World}{S:Nat→Prop}(h:Q3c B w b)(k:Qaa S w w')(hs:∀i,S i→B≤i∧i≠b):Q3c B w' b:=by
 obtain⟨hB,a,len,cap,at_,hH,h1,h2,h3⟩:=h
 refine⟨hB,a,len,cap,at_,hH.keeps k (fun e=>(hs b e).2 rfl),h1,h2,?_⟩
 intro hl
 obtain⟨g,o,rfl,hg,hc⟩:=h3 hl
 refine⟨g,o,rfl,hg,fun i hi=>?_⟩
 obtain⟨n,hn,hb⟩:=hc i hi
 exact⟨n,(k.cell (p:=⟨g,o+i,none⟩) (World.block_lt_of_cell? w _ hn) (fun e=>by have:=(hs g e).1;omega)).trans hn,hb⟩
theorem Q3c.lt{B b:Nat}{w:World}(h:Q3c B w b):b<w.heap.size:=by
 obtain⟨_,_,_,_,_,hH,_⟩:=h;exact hH.lt
theorem QTq(B b:Nat)(w:World)(h:Q3c B w b) :
 Calls Tryz.prog 43 #[.pointer (some ⟨b,0,none⟩)] w fun e w'=>∃n,e = .returned (.int .i64 n)∧I64 n∧Q3c B w' b∧Qaa (· = b) w w':=by
 have hT:=h
 obtain⟨hB,a,len,cap,at_,hH,h1,h2,h3⟩:=h
 have c0:w.cell? ⟨b,0,none⟩=some (.slice a len cap):=hH.cell 0
 have c1:w.cell? ⟨b,1,none⟩=some (.int .i64 at_):=hH.cell 1
 have f1:=hH.free 1
 by_cases Hh:at_<len
 ·obtain⟨g,o,rfl,hg,hc⟩:=h3 (by omega)
  obtain⟨n,hn,hb⟩:=hc at_ Hh
  have HC:=Lib.hid hc;clear hc h3
  go_enter Tryz.func43,Tryz.ntmps43
  go_wp2
  go_quiet (fail)
  go_wp2
  go_quiet (fail)
  go_wp2
  go_ret
  refine⟨n,rfl,hb,?_,((Qaa.refl (fun i=>i=b) w).drewN _ |>.setCell (.inr rfl) _).drewN _⟩
  refine⟨hB,some ⟨g,o,none⟩,len,cap,at_+1,((hH.drewN _).set 1 _).drewN _,Hh,h2,fun _=>⟨g,o,rfl,hg,fun i hi=>?_⟩⟩
  obtain⟨m,hm,dr⟩:=HC.out i hi
  exact⟨m,(World.cell?_setCell_other _ _ _ _ (by intro e;have:=congrArg Addr.block e;simp at this;omega)).trans hm,dr⟩
 ·have ji:len≤at_:=by omega
  go_enter Tryz.func43,Tryz.ntmps43
  go_wp2
  go_quiet (fail)
  go_wp2
  go_ret
  exact⟨0,rfl,⟨by decide,by decide⟩,hT.keeps ((Qaa.refl (fun _=>False) w).drewN _) (fun _ e=>e.elim),(Qaa.refl _ w).drewN _⟩
theorem QRq(x n:Int)(w:World)(hx:I64 x)(hn:1≤n)(Jq:n≤4611686018427387904) :
 Calls Tryz.prog 42 #[.int .i64 x,.int .i64 n] w fun e w'=>∃r,e = .returned (.int .i64 r)∧0≤r∧r<n∧w=w':=by
 obtain⟨x0,x1⟩:=hx
 have vG:-n<x.tmod n:=by have:=Int.tmod_lt_of_pos (-x) (show 0<n by omega);rw[Int.neg_tmod]at this;omega
 have qH:x.tmod n<n:=Int.tmod_lt_of_pos x (by omega)
 by_cases hneg:x.tmod n<0
 ·go_enter Tryz.func42,Tryz.ntmps42
  go_wp2
  go_ret
  exact⟨_,rfl,by omega,by omega,rfl⟩
 ·go_enter Tryz.func42,Tryz.ntmps42
  go_wp2
  go_ret
  exact⟨_,rfl,by omega,by omega,rfl⟩
theorem Qge(B b:Nat)(n:Int)(w:World)(h:Q3c B w b)(hn:1≤n)(Jq:n≤4611686018427387904) :
 Calls Tryz.prog 21 #[.pointer (some ⟨b,0,none⟩),.int .i64 n] w fun e w'=>∃r,e = .returned (.int .i64 r)∧0≤r∧r<n∧Q3c B w' b∧Qaa (· = b) w w':=by
 go_enter Tryz.func21,Tryz.ntmps21
 go_wp2_with fail
 refine(QTq B b _ h).mono ?_
 rintro e w1 ⟨x,rfl,hx,hT,hK⟩
 go_wp2_with fail
 refine(QRq x n _ hx hn Jq).mono ?_
 rintro e w2 ⟨r,rfl,r0,r1,rfl⟩
 go_wp2_with fail
 go_ret
 exact⟨r,rfl,r0,r1,hT,hK⟩
theorem QTb(l:List ByteArray)(r:Nat)(h:r<l.length):∃s,l[r]? = some s∧s∈l:=⟨l[r],by simp[h],List.getElem_mem h⟩
def Qqi(w:World)(a:Option Addr)(len:Nat):Prop:=
 0<len→∃g o,a=some ⟨g,o,none⟩∧∀i,i<len→∃n,w.cell? ⟨g,o+i,none⟩=some (.int .i64 n)∧I64 n
theorem QSq(a:Option Addr)(len cap:Nat)(w:World)(hi:Qqi w a len)(hlc:len≤cap)(hcap:cap≤maxLen)(dw:a=none→len=0∧cap=0) :
 Calls Tryz.prog 8 #[.slice a len cap] w fun e w'=>∃b,e = .returned (.pointer (some ⟨b,0,none⟩))∧Q3c w.heap.size w' b∧Below w.heap.size w w':=by
 unfold maxLen at hcap
 go_enter Tryz.func8,Tryz.ntmps8
 by_cases h5:len≤500
 ·go_wp2
  go_ret
  refine⟨w.heap.size,rfl,⟨Nat.le_refl _,a,len,cap,0,Qca.new w _ _,by omega,h5,fun hl=>?_⟩,(Below.refl _ _).alloc (Nat.le_refl _) _⟩
  obtain⟨g,o,rfl,hc⟩:=hi hl
  obtain⟨n0,Mw,_⟩:=hc 0 hl
  have hg:g<w.heap.size:=World.block_lt_of_cell? w _ Mw
  refine⟨g,o,rfl,hg,fun i hi=>?_⟩
  obtain⟨n,hn,hb⟩:=hc i hi
  exact⟨n,(((Qaa.refl (fun _=>False) w).alloc _).cell (p:=⟨g,o+i,none⟩) hg (fun e=>e)).trans hn,hb⟩
 ·have h5':500<len:=by omega
  go_wp2
  go_ret
  refine⟨w.heap.size,rfl,⟨Nat.le_refl _,a,500,cap,0,Qca.new w _ _,by omega,by omega,fun hl=>?_⟩,(Below.refl _ _).alloc (Nat.le_refl _) _⟩
  obtain⟨g,o,rfl,hc⟩:=hi (by omega)
  obtain⟨n0,Mw,_⟩:=hc 0 (by omega)
  have hg:g<w.heap.size:=World.block_lt_of_cell? w _ Mw
  refine⟨g,o,rfl,hg,fun i hi=>?_⟩
  obtain⟨n,hn,hb⟩:=hc i (by omega)
  exact⟨n,(((Qaa.refl (fun _=>False) w).alloc _).cell (p:=⟨g,o+i,none⟩) hg (fun e=>e)).trans hn,hb⟩
theorem Q9e{w:World}{a:Option Addr}{len cap:Nat}{zs:List Int}
 (h:(a=none∧len=0∧cap=0∧zs=[])∨∃x,a=some x∧len≤cap∧cap≤maxLen∧zs.length=cap∧(∀i,i<zs.length→w.cell? (x.add i)=some (.int .i64 (zs.getD i 0)))∧∀n∈zs,(Lit.int .i64 n).wf=true) :
 Qqi w a len∧len≤cap∧cap≤maxLen∧(a=none→len=0∧cap=0):=by
 rcases h with⟨rfl,rfl,rfl,rfl⟩|⟨x,rfl,hl,hm,hz,hc,hw⟩
 ·exact⟨fun h=>absurd h (by omega),by omega,by unfold maxLen;omega,fun _=>⟨rfl,rfl⟩⟩
 ·refine⟨fun h0=>?_,hl,hm,fun e=>by cases e⟩
  obtain⟨g,o,sp⟩:=x
  have tH:sp=none:=by simpa[Addr.add]using World.cell?_spot (hc 0 (by omega))
  subst tH
  refine⟨g,o,rfl,fun i hi=>?_⟩
  have:=hc i (by omega)
  have Kj:(⟨g,o,none⟩:Addr).add i=⟨g,o+i,none⟩:=by unfold Addr.add;split <;> simp_all
  rw[Kj]at this
  refine⟨_,this,?_⟩
  have tf:zs.getD i 0∈zs:=by
   have hi':i<zs.length:=by omega
   rw[List.getD_eq_getElem?_getD,List.getElem?_eq_getElem hi'];exact List.getElem_mem hi'
  have:=hw _ tf
  simp[Lit.wf,IntKind.min,IntKind.max,IntKind.signed,IntKind.bits]at this
  exact this
def QNi:List ByteArray:=[⟨#[97]⟩,⟨#[110,111,100,101,64,49]⟩,⟨#[35,99,101,108,108,115]⟩,⟨#[99,111,109,112,97,116,105,98,108,101]⟩,⟨#[120,58]⟩,⟨#[108,97,98,95,49,58]⟩,⟨#[38,97]⟩,⟨#[38,108,97,98,95,49]⟩,⟨#[48]⟩,⟨#[55]⟩,⟨#[48,49,48]⟩,⟨#[48,120,49,102]⟩,⟨#[48,120,70,70,70,70,70,70,70,70]⟩,⟨#[52,50,57,52,57,54,55,50,57,53]⟩,⟨#[34,116,101,120,116,34]⟩,⟨#[34,97,92,110,92,120,52,49,92,34,34]⟩,⟨#[47,105,110,99,108,117,100,101,47]⟩,⟨#[47,100,101,108,101,116,101,45,110,111,100,101,47]⟩,⟨#[47]⟩,⟨#[123]⟩,⟨#[125]⟩,⟨#[40]⟩,⟨#[41]⟩,⟨#[60]⟩,⟨#[62]⟩,⟨#[91]⟩,⟨#[93]⟩,⟨#[59]⟩,⟨#[61]⟩,⟨#[44]⟩,⟨#[43]⟩,⟨#[45]⟩,⟨#[42]⟩,⟨#[37]⟩,⟨#[60,60]⟩,⟨#[62,62]⟩,⟨#[60,61]⟩,⟨#[62,61]⟩,⟨#[61,61]⟩,⟨#[33,61]⟩,⟨#[38,38]⟩,⟨#[124,124]⟩,⟨#[94]⟩,⟨#[126]⟩,⟨#[33]⟩,⟨#[63]⟩,⟨#[58]⟩,⟨#[124]⟩,⟨#[38]⟩,⟨#[32]⟩,⟨#[10]⟩,⟨#[9]⟩,⟨#[47,47,32,110,111,116,101,10]⟩,⟨#[47,42,32,97,10,42,32,98,32,42,47]⟩,⟨#[13,10]⟩]
set_option maxRecDepth 100000 in
theorem QUn(B b:Nat)(w:World)(h:Q3c B w b) :
 Calls Tryz.prog 32 #[.pointer (some ⟨b,0,none⟩)] w fun e w'=>∃s,e = .returned (.string s)∧s∈QNi∧Q3c B w' b∧Qaa (· = b) w w':=by
 have Hh:=h.lt
 go_enter Tryz.func32,Tryz.ntmps32
 go_wp2_with fail
 refine(Qge B b 55 _ (h.keeps ((Qaa.refl (fun _=>False) w).alloc _) (fun _ e=>e.elim)) (by omega) (by omega)).mono ?_
 rintro e w1 ⟨r,rfl,r0,r1,hT,hK⟩
 obtain⟨r,rfl⟩:=Int.eq_ofNat_of_zero_le r0
 have hH:=(Qca.new w (QNi.map Value.string).toArray 9).keeps hK (by omega)
 obtain⟨s,gy,gB⟩:=QTb QNi r (by have:QNi.length=55:=rfl;omega)
 have hc:w1.cell? ⟨w.heap.size,r,none⟩=some (.string s):=(hH.cell r).trans (by simp[gy])
 have ga:Qaa (fun i=>i=b) w w1:=((Qaa.refl (fun i=>i=b) w).alloc _).trans hK (fun _ _ e=>e)
 go_wp2_with fail
 go_ret
 exact⟨s,rfl,gB,hT,ga⟩
def Qvp:List ByteArray:=[⟨#[48,57]⟩,⟨#[48,120]⟩,⟨#[48,120,103]⟩,⟨#[49,50,97,98]⟩,⟨#[52,50,57,52,57,54,55,50,57,54]⟩,⟨#[57,57,57,57,57,57,57,57,57,57,57,57,57,57,57,57,57,57,57,57]⟩,⟨#[34]⟩,⟨#[34,97,98,10,34]⟩,⟨#[34,92,113,34]⟩,⟨#[34,92,120,52]⟩,⟨#[34,92]⟩,⟨#[47,42]⟩,⟨#[47,42,32,120]⟩,⟨#[47,42,47]⟩,⟨#[36]⟩,⟨#[64]⟩,⟨#[46]⟩,⟨#[0]⟩,⟨#[255]⟩,⟨#[97,45,98,58]⟩,⟨#[35,120,58]⟩,⟨#[47,97]⟩,⟨#[47,45,47]⟩,⟨#[47,47]⟩,⟨#[56]⟩,⟨#[48,56]⟩,⟨#[39]⟩]
set_option maxRecDepth 100000 in
theorem Qwm(B b:Nat)(w:World)(h:Q3c B w b) :
 Calls Tryz.prog 18 #[.pointer (some ⟨b,0,none⟩)] w fun e w'=>∃s,e = .returned (.string s)∧s∈Qvp∧Q3c B w' b∧Qaa (· = b) w w':=by
 have Hh:=h.lt
 go_enter Tryz.func18,Tryz.ntmps18
 go_wp2_with fail
 refine(Qge B b 27 _ (h.keeps ((Qaa.refl (fun _=>False) w).alloc _) (fun _ e=>e.elim)) (by omega) (by omega)).mono ?_
 rintro e w1 ⟨r,rfl,r0,r1,hT,hK⟩
 obtain⟨r,rfl⟩:=Int.eq_ofNat_of_zero_le r0
 have hH:=(Qca.new w (Qvp.map Value.string).toArray 9).keeps hK (by omega)
 obtain⟨s,gy,gB⟩:=QTb Qvp r (by have:Qvp.length=27:=rfl;omega)
 have hc:w1.cell? ⟨w.heap.size,r,none⟩=some (.string s):=(hH.cell r).trans (by simp[gy])
 have ga:Qaa (fun i=>i=b) w w1:=((Qaa.refl (fun i=>i=b) w).alloc _).trans hK (fun _ _ e=>e)
 go_wp2_with fail
 go_ret
 exact⟨s,rfl,gB,hT,ga⟩
def Qjl:List ByteArray:=[⟨#[97]⟩,⟨#[98]⟩,⟨#[99]⟩,⟨#[99,112,117]⟩,⟨#[99,108,107]⟩,⟨#[98,117,115,64,49,48]⟩,⟨#[100,101,118,64,50]⟩,⟨#[120,95,49]⟩,⟨#[122]⟩]
set_option maxRecDepth 100000 in
theorem Qvg(B b:Nat)(w:World)(h:Q3c B w b) :
 Calls Tryz.prog 47 #[.pointer (some ⟨b,0,none⟩)] w fun e w'=>∃s,e = .returned (.string s)∧s∈Qjl∧Q3c B w' b∧Qaa (· = b) w w':=by
 have Hh:=h.lt
 go_enter Tryz.func47,Tryz.ntmps47
 go_wp2_with fail
 refine(Qge B b 9 _ (h.keeps ((Qaa.refl (fun _=>False) w).alloc _) (fun _ e=>e.elim)) (by omega) (by omega)).mono ?_
 rintro e w1 ⟨r,rfl,r0,r1,hT,hK⟩
 obtain⟨r,rfl⟩:=Int.eq_ofNat_of_zero_le r0
 have hH:=(Qca.new w (Qjl.map Value.string).toArray 9).keeps hK (by omega)
 obtain⟨s,gy,gB⟩:=QTb Qjl r (by have:Qjl.length=9:=rfl;omega)
 have hc:w1.cell? ⟨w.heap.size,r,none⟩=some (.string s):=(hH.cell r).trans (by simp[gy])
 have ga:Qaa (fun i=>i=b) w w1:=((Qaa.refl (fun i=>i=b) w).alloc _).trans hK (fun _ _ e=>e)
 go_wp2_with fail
 go_ret
 exact⟨s,rfl,gB,hT,ga⟩
def Qrd:List ByteArray:=[⟨#[114,101,103]⟩,⟨#[99,111,109,112,97,116,105,98,108,101]⟩,⟨#[115,116,97,116,117,115]⟩,⟨#[99,108,111,99,107,115]⟩,⟨#[35,99,101,108,108,115]⟩,⟨#[112]⟩,⟨#[113]⟩,⟨#[108,97,98,101,108]⟩,⟨#[118,97,108,117,101]⟩]
set_option maxRecDepth 100000 in
theorem QFe(B b:Nat)(w:World)(h:Q3c B w b) :
 Calls Tryz.prog 45 #[.pointer (some ⟨b,0,none⟩)] w fun e w'=>∃s,e = .returned (.string s)∧s∈Qrd∧Q3c B w' b∧Qaa (· = b) w w':=by
 have Hh:=h.lt
 go_enter Tryz.func45,Tryz.ntmps45
 go_wp2_with fail
 refine(Qge B b 9 _ (h.keeps ((Qaa.refl (fun _=>False) w).alloc _) (fun _ e=>e.elim)) (by omega) (by omega)).mono ?_
 rintro e w1 ⟨r,rfl,r0,r1,hT,hK⟩
 obtain⟨r,rfl⟩:=Int.eq_ofNat_of_zero_le r0
 have hH:=(Qca.new w (Qrd.map Value.string).toArray 9).keeps hK (by omega)
 obtain⟨s,gy,gB⟩:=QTb Qrd r (by have:Qrd.length=9:=rfl;omega)
 have hc:w1.cell? ⟨w.heap.size,r,none⟩=some (.string s):=(hH.cell r).trans (by simp[gy])
 have ga:Qaa (fun i=>i=b) w w1:=((Qaa.refl (fun i=>i=b) w).alloc _).trans hK (fun _ _ e=>e)
 go_wp2_with fail
 go_ret
 exact⟨s,rfl,gB,hT,ga⟩
theorem Q1f(B b:Nat)(lo hi:Int)(w:World)(h:Q3c B w b)(h0:-1000≤lo)(h1:lo≤hi)(h2:hi≤4611686018427387) :
 Calls Tryz.prog 30 #[.pointer (some ⟨b,0,none⟩),.int .i64 lo,.int .i64 hi] w fun e w'=>∃r,e = .returned (.int .i64 r)∧lo≤r∧r≤hi∧Q3c B w' b∧Qaa (· = b) w w':=by
 go_enter Tryz.func30,Tryz.ntmps30
 go_wp2_with fail
 refine(Qge B b (hi-lo+1) _ h (by omega) (by omega)).mono ?_
 rintro e w1 ⟨r,rfl,r0,r1,hT,hK⟩
 go_wp2_with fail
 go_ret
 exact⟨_,rfl,by omega,by omega,hT,hK⟩
theorem QCp(B b g o cap:Nat)(l:List Int)(w:World)(h:Q3c B w b)(h0:0<l.length)(h1:l.length≤1000)(Hn:g≠b)(hc:∀(i:Nat) (h:i<l.length),w.cell? ⟨g,o+i,none⟩=some (.int .i64 l[i])) :
 Calls Tryz.prog 144 #[.pointer (some ⟨b,0,none⟩),.slice (some ⟨g,o,none⟩) l.length cap] w fun e w'=>∃r,e = .returned (.int .i64 r)∧r∈l∧Q3c B w' b∧Qaa (· = b) w w':=by
 have HC:=Lib.hid hc;clear hc
 go_enter Tryz.func144,Tryz.ntmps144
 go_wp2_with fail
 refine(Qge B b l.length _ h (by omega) (by omega)).mono ?_
 rintro e w1 ⟨r,rfl,r0,r1,hT,hK⟩
 obtain⟨k,rfl⟩:=Int.eq_ofNat_of_zero_le r0
 have hk:k<l.length:=by omega
 have G8:w1.cell? ⟨g,o+k,none⟩=some (.int .i64 l[k]):=(hK.cell (p:=⟨g,o+k,none⟩) (World.block_lt_of_cell? w _ (HC.out k hk)) Hn).trans (HC.out k hk)
 go_wp2_with fail
 go_ret
 exact⟨_,rfl,List.getElem_mem hk,hT,hK⟩
theorem Qbk(l:List Int)(i:Nat)(h:i<l.length):((l.map (Value.int .i64)).toArray)[i]? = some (.int .i64 l[i]):=by simp[h]
theorem QSi(B b:Nat)(w:World)(h:Q3c B w b) :
 Calls Tryz.prog 132 #[.pointer (some ⟨b,0,none⟩)] w fun e w'=>∃r,e = .returned (.int .i64 r)∧0≤r∧r≤4294967295∧Q3c B w' b∧Qaa (· = b) w w':=by
 go_enter Tryz.func132,Tryz.ntmps132
 go_wp2_with fail
 refine(Q1f B b 0 300 _ h (by omega) (by omega) (by omega)).mono ?_
 rintro e w1 ⟨r1,rfl,ha,hb,Kv,g9⟩
 go_wp2_with fail
 refine(Q1f B b 0 4294967295 _ Kv (by omega) (by omega) (by omega)).mono ?_
 rintro e w2 ⟨r2,rfl,hc,hd,gN,ga⟩
 have Hh:=gN.lt
 have gm:Below w2.heap.size w2 (w2.alloc (.cells #[.int .i64 0,.int .i64 1,.int .i64 2,.int .i64 3,.int .i64 5,.int .i64 31,.int .i64 32,.int .i64 r1,.int .i64 4294967295,.int .i64 2147483648,.int .i64 r2] 3)):=(Below.refl _ _).alloc (Nat.le_refl _) _
 have G5:=gN.keeps (Qaa.of_fresh gm (fun _=>False)) (fun _ e=>e.elim)
 have hH:=Qca.new w2 (([0,1,2,3,5,31,32,r1,4294967295,2147483648,r2]:List Int).map (Value.int .i64)).toArray 3
 have hc':∀(i:Nat) (h:i<([0,1,2,3,5,31,32,r1,4294967295,2147483648,r2]:List Int).length),(w2.alloc (.cells #[.int .i64 0,.int .i64 1,.int .i64 2,.int .i64 3,.int .i64 5,.int .i64 31,.int .i64 32,.int .i64 r1,.int .i64 4294967295,.int .i64 2147483648,.int .i64 r2] 3)).cell? ⟨w2.heap.size,0+i,none⟩=some (.int .i64 ([0,1,2,3,5,31,32,r1,4294967295,2147483648,r2]:List Int)[i]):=by
  intro i hi
  rw[Nat.zero_add]
  exact(hH.cell i).trans (Qbk _ i hi)
 have hp:=Lib.hid (QCp B b w2.heap.size 0 11 [0,1,2,3,5,31,32,r1,4294967295,2147483648,r2] _ G5 (by simp) (by simp) (by omega) hc')
 have qj:=g9.trans ga (fun _ _ e=>e)
 clear Kv gN G5 hH hc' h g9 ga
 go_wp2_with fail
 refine(hp.out).mono ?_
 rintro e w4 ⟨r,rfl,hr,G6,gD⟩
 go_wp2_with fail
 go_ret
 have gT:0≤r∧r≤4294967295:=by simp at hr;omega
 exact⟨r,rfl,gT.1,gT.2,G6,(qj.trans (Qaa.of_fresh gm (fun i=>i=b)) (fun _ _ e=>e)).trans gD (fun _ _ e=>e)⟩
end Go.Proofs.YtofhcgbihonckaaGreat
