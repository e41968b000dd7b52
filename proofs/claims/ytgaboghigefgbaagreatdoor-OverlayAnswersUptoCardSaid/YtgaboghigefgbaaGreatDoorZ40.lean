/- Lemmas on the way to the law; no conditions. -/
import Derived.Test.YtgaboghigefgbaaGreatDoorZ2
import Derived.WalkLawsBesides
import Derived.Deep.QuietTactic
import Derived.BigQuiet
set_option linter.all false
set_option maxRecDepth 100000
set_option maxHeartbeats 8000000
namespace Go.Proofs.YtgaboghigefgbaaGreatDoor
open Go.Proofs.Tryz
open Go.RowKit
def I64(n:Int):Prop := -9223372036854775808≤n∧n≤9223372036854775807
def QFb(B:Nat)(w:World)(b:Nat):Prop:=
 B≤b∧∃(a:Option Addr) (len cap at_:Nat),Holds w b #[.slice a len cap,.int .i64 at_] 63∧at_≤len∧len≤500∧
  (0<len→∃g o,a=some ⟨g,o,none⟩∧g<B∧∀i,i<len→∃n,w.cell? ⟨g,o+i,none⟩=some (.int .i64 n)∧I64 n)
theorem QFb.keeps{B b:Nat}{w w':World}{S:Nat→Prop}(h:QFb B w b)(k:Qaa S w w')(hs:∀i,S i→B≤i∧i≠b):QFb B w' b:=by
 obtain⟨hB,a,len,cap,at_,hH,h1,h2,h3⟩:=h;refine⟨hB,a,len,cap,at_,hH.keeps k (fun e=>(hs b e).2 rfl),h1,h2,?_⟩;intro hl;obtain⟨g,o,rfl,hg,hc⟩:=h3 hl;refine⟨g,o,rfl,hg,fun i hi=>?_⟩;obtain⟨n,hn,hb⟩:=hc i hi;exact⟨n,(k.cell (p:=⟨g,o+i,none⟩) (World.block_lt_of_cell? w _ hn) (fun e=>by have:=(hs g e).1;omega)).trans hn,hb⟩
theorem QFb.lt{B b:Nat}{w:World}(h:QFb B w b):b<w.heap.size:=by
 obtain⟨_,_,_,_,_,hH,_⟩:=h;exact hH.lt
theorem Q6t(B b:Nat)(w:World)(h:QFb B w b) :
 Calls prog 61 #[.pointer (some ⟨b,0,none⟩)] w fun e w'=>∃n,e=.returned (.int .i64 n)∧I64 n∧QFb B w' b∧Qaa (· = b) w w':=by
 have hT:=h;obtain⟨hB,a,len,cap,at_,hH,h1,h2,h3⟩:=h;have c0:w.cell? ⟨b,0,none⟩=some (.slice a len cap):=hH.cell 0;have c1:w.cell? ⟨b,1,none⟩=some (.int .i64 at_):=hH.cell 1;have f1:=hH.free 1;by_cases Hh:at_<len
 ·obtain⟨g,o,rfl,hg,hc⟩:=h3 (by omega);obtain⟨n,hn,hb⟩:=hc at_ Hh;have HC:=Lib.hid hc;clear hc h3;go_enter func61,ntmps61
  go_wp2
  go_quiet(fail)
  go_wp2
  go_quiet(fail)
  go_wp2
  go_ret;refine⟨n,rfl,hb,?_,((Qaa.refl (fun i=>i=b) w).drewN _ |>.setCell (.inr rfl) _).drewN _⟩;refine⟨hB,some ⟨g,o,none⟩,len,cap,at_+1,((hH.drewN _).set 1 _).drewN _,Hh,h2,fun _=>⟨g,o,rfl,hg,fun i hi=>?_⟩⟩;obtain⟨m,hm,pD⟩:=HC.o i hi;exact⟨m,(World.cell?_setCell_other _ _ _ _ (by intro e;have:=congrArg Addr.block e;simp at this;omega)).trans hm,pD⟩
 have bP:len≤at_:=by omega
 go_enter func61,ntmps61
 go_wp2
 go_quiet(fail)
 go_wp2
 go_ret;exact⟨0,rfl,⟨by decide,by decide⟩,hT.keeps ((Qaa.refl (fun _=>False) w).drewN _) (fun _ e=>e.elim),(Qaa.refl _ w).drewN _⟩
theorem Q4t(x n:Int)(w:World)(hx:I64 x)(hn:1≤n)(mg:n≤4611686018427387904) :
 Calls prog 60 #[.int .i64 x,.int .i64 n] w fun e w'=>∃r,e=.returned (.int .i64 r)∧0≤r∧r<n∧w=w':=by
 obtain⟨x0,x1⟩:=hx;have hm0:-n<x.tmod n:=by have:=Int.tmod_lt_of_pos (-x) (show 0<n by omega);rw[Int.neg_tmod]at this;omega
 have hm1:x.tmod n<n:=Int.tmod_lt_of_pos x (by omega);by_cases hneg:x.tmod n<0
 ·go_enter func60,ntmps60
  go_wp2
  go_ret;exact⟨_,rfl,by omega,by omega,rfl⟩
 go_enter func60,ntmps60
 go_wp2
 go_ret;exact⟨_,rfl,by omega,by omega,rfl⟩
theorem QUg(B b:Nat)(n:Int)(w:World)(h:QFb B w b)(hn:1≤n)(mg:n≤4611686018427387904) :
 Calls prog 27 #[.pointer (some ⟨b,0,none⟩),.int .i64 n] w fun e w'=>∃r,e=.returned (.int .i64 r)∧0≤r∧r<n∧QFb B w' b∧Qaa (· = b) w w':=by
 go_enter func27,ntmps27;go_wp2_with fail;refine(Q6t B b _ h).mono ?_;rintro e w1 ⟨x,rfl,hx,hT,hK⟩;go_wp2_with fail;refine(Q4t x n _ hx hn mg).mono ?_;rintro e w2 ⟨r,rfl,r0,r1,rfl⟩;go_wp2_with fail;go_ret;exact⟨r,rfl,r0,r1,hT,hK⟩
theorem QIc(l:List ByteArray)(r:Nat)(h:r<l.length):∃s,l[r]? = some s∧s∈l:=⟨l[r],by simp[h],List.getElem_mem h⟩
def Q4j(w:World)(a:Option Addr)(len:Nat):Prop:=
 0<len→∃g o,a=some ⟨g,o,none⟩∧∀i,i<len→∃n,w.cell? ⟨g,o+i,none⟩=some (.int .i64 n)∧I64 n
theorem Q5t(a:Option Addr)(len cap:Nat)(w:World)(hi:Q4j w a len)(pA:len≤cap)(hcap:cap≤maxLen)(hnil:a=none→len=0∧cap=0) :
 Calls prog 7 #[.slice a len cap] w fun e w'=>∃b,e=.returned (.pointer (some ⟨b,0,none⟩))∧QFb w.heap.size w' b∧Below w.heap.size w w':=by
 unfold maxLen at hcap;go_enter func7,ntmps7;by_cases h5:len≤500
 ·go_wp2
  go_ret;refine⟨w.heap.size,rfl,⟨Nat.le_refl _,a,len,cap,0,Holds.new w _ _,by omega,h5,fun hl=>?_⟩,Bq⟩;obtain⟨g,o,rfl,hc⟩:=hi hl;obtain⟨n0,M9,_⟩:=hc 0 hl;have hg:g<w.heap.size:=World.block_lt_of_cell? w _ M9;refine⟨g,o,rfl,hg,fun i hi=>?_⟩;obtain⟨n,hn,hb⟩:=hc i hi;exact⟨n,(((Qaa.refl (fun _=>False) w).alloc _).cell (p:=⟨g,o+i,none⟩) hg (fun e=>e)).trans hn,hb⟩
 have h5':500<len:=by omega
 go_wp2
 go_ret;refine⟨w.heap.size,rfl,⟨Nat.le_refl _,a,500,cap,0,Holds.new w _ _,by omega,by omega,fun hl=>?_⟩,Bq⟩;obtain⟨g,o,rfl,hc⟩:=hi (by omega);obtain⟨n0,M9,_⟩:=hc 0 (by omega);have hg:g<w.heap.size:=World.block_lt_of_cell? w _ M9;refine⟨g,o,rfl,hg,fun i hi=>?_⟩;obtain⟨n,hn,hb⟩:=hc i (by omega);exact⟨n,(((Qaa.refl (fun _=>False) w).alloc _).cell (p:=⟨g,o+i,none⟩) hg (fun e=>e)).trans hn,hb⟩
theorem Qeg{w:World}{a:Option Addr}{len cap:Nat}{zs:List Int}
 (h:(a=none∧len=0∧cap=0∧zs=[])∨∃x,a=some x∧len≤cap∧cap≤maxLen∧zs.length=cap∧(∀i,i<zs.length→w.cell? (x.add i)=some (.int .i64 (zs.getD i 0)))∧∀n∈zs,(Lit.int .i64 n).wf=true) :
 Q4j w a len∧len≤cap∧cap≤maxLen∧(a=none→len=0∧cap=0):=by
 rcases h with⟨rfl,rfl,rfl,rfl⟩|⟨x,rfl,hl,hm,hz,hc,hw⟩
 ·exact⟨fun h=>absurd h (by omega),by omega,by unfold maxLen;omega,fun _=>⟨rfl,rfl⟩⟩
 refine⟨fun h0=>?_,hl,hm,fun e=>by cases e⟩;obtain⟨g,o,sp⟩:=x;have iF:sp=none:=by simpa[Addr.add]using World.cell?_spot (hc 0 (by omega))
 subst iF;refine⟨g,o,rfl,fun i hi=>?_⟩;have:=hc i (by omega);have Gk:(⟨g,o,none⟩:Addr).add i=⟨g,o+i,none⟩:=by unfold Addr.add;split <;> simp_all
 rw[Gk]at this;refine⟨_,this,?_⟩;have KF:zs.getD i 0∈zs:=by
  have hi':i<zs.length:=by omega
  rw[List.getD_eq_getElem?_getD,List.getElem?_eq_getElem hi'];exact List.getElem_mem hi'
 have:=hw _ KF;simp[Lit.wf,IntKind.min,IntKind.max,IntKind.signed,IntKind.bits]at this;exact this
def QFk:List ByteArray:=[⟨#[97]⟩,⟨#[98]⟩,⟨#[99]⟩,⟨#[99,112,117]⟩,⟨#[99,108,107]⟩,⟨#[98,117,115,64,49,48]⟩,⟨#[100,101,118,64,50]⟩,⟨#[120,95,49]⟩,⟨#[122]⟩]
theorem Q9l(B b:Nat)(w:World)(h:QFb B w b) :
 Calls prog 34 #[.pointer (some ⟨b,0,none⟩)] w fun e w'=>∃s,e=.returned (.string s)∧s∈QFk∧QFb B w' b∧Qaa (· = b) w w':=by
 have Hh:=h.lt;go_enter func34,ntmps34;go_wp2_with fail;refine(QUg B b 9 _ (h.keeps ((Qaa.refl (fun _=>False) w).alloc _) (fun _ e=>e.elim)) (by omega) (by omega)).mono ?_;rintro e w1 ⟨r,rfl,r0,r1,hT,hK⟩;obtain⟨r,rfl⟩:=Int.eq_ofNat_of_zero_le r0;have hH:=(Holds.new w (QFk.map Value.string).toArray 9).keeps hK (by omega);obtain⟨s,Gn,Gx⟩:=QIc QFk r (by have:QFk.length=9:=rfl;omega);have hc:w1.cell? ⟨w.heap.size,r,none⟩=some (.string s):=(hH.cell r).trans (by simp[Gn]);have H3:Qaa (fun i=>i=b) w w1:=((Qaa.refl (fun i=>i=b) w).alloc _).trans hK (fun _ _ e=>e);go_wp2_with fail;go_ret;exact⟨s,rfl,Gx,hT,H3⟩
def QLc:List ByteArray:=[⟨#[114,101,103]⟩,⟨#[99,111,109,112,97,116,105,98,108,101]⟩,⟨#[115,116,97,116,117,115]⟩,⟨#[99,108,111,99,107,115]⟩,⟨#[35,99,101,108,108,115]⟩,⟨#[112]⟩,⟨#[113]⟩,⟨#[108,97,98,101,108]⟩,⟨#[118,97,108,117,101]⟩]
theorem Q6d(B b:Nat)(w:World)(h:QFb B w b) :
 Calls prog 31 #[.pointer (some ⟨b,0,none⟩)] w fun e w'=>∃s,e=.returned (.string s)∧s∈QLc∧QFb B w' b∧Qaa (· = b) w w':=by
 have Hh:=h.lt;go_enter func31,ntmps31;go_wp2_with fail;refine(QUg B b 9 _ (h.keeps ((Qaa.refl (fun _=>False) w).alloc _) (fun _ e=>e.elim)) (by omega) (by omega)).mono ?_;rintro e w1 ⟨r,rfl,r0,r1,hT,hK⟩;obtain⟨r,rfl⟩:=Int.eq_ofNat_of_zero_le r0;have hH:=(Holds.new w (QLc.map Value.string).toArray 9).keeps hK (by omega);obtain⟨s,Gn,Gx⟩:=QIc QLc r (by have:QLc.length=9:=rfl;omega);have hc:w1.cell? ⟨w.heap.size,r,none⟩=some (.string s):=(hH.cell r).trans (by simp[Gn]);have H3:Qaa (fun i=>i=b) w w1:=((Qaa.refl (fun i=>i=b) w).alloc _).trans hK (fun _ _ e=>e);go_wp2_with fail;go_ret;exact⟨s,rfl,Gx,hT,H3⟩
theorem Q6f(B b:Nat)(lo hi:Int)(w:World)(h:QFb B w b)(h0:-1000≤lo)(h1:lo≤hi)(h2:hi≤4611686018427387) :
 Calls prog 33 #[.pointer (some ⟨b,0,none⟩),.int .i64 lo,.int .i64 hi] w fun e w'=>∃r,e=.returned (.int .i64 r)∧lo≤r∧r≤hi∧QFb B w' b∧Qaa (· = b) w w':=by
 go_enter func33,ntmps33;go_wp2_with fail;refine(QUg B b (hi-lo+1) _ h (by omega) (by omega)).mono ?_;rintro e w1 ⟨r,rfl,r0,r1,hT,hK⟩;go_wp2_with fail;go_ret;exact⟨_,rfl,by omega,by omega,hT,hK⟩
theorem QSh(B b g o cap:Nat)(l:List Int)(w:World)(h:QFb B w b)(h0:0<l.length)(h1:l.length≤1000)(Hl:g≠b)(hc:∀(i:Nat) (h:i<l.length),w.cell? ⟨g,o+i,none⟩=some (.int .i64 l[i])) :
 Calls prog 48 #[.pointer (some ⟨b,0,none⟩),.slice (some ⟨g,o,none⟩) l.length cap] w fun e w'=>∃r,e=.returned (.int .i64 r)∧r∈l∧QFb B w' b∧Qaa (· = b) w w':=by
 have HC:=Lib.hid hc;clear hc;go_enter func48,ntmps48;go_wp2_with fail;refine(QUg B b l.length _ h (by omega) (by omega)).mono ?_;rintro e w1 ⟨r,rfl,r0,r1,hT,hK⟩;obtain⟨k,rfl⟩:=Int.eq_ofNat_of_zero_le r0;have hk:k<l.length:=by omega
 have gB:w1.cell? ⟨g,o+k,none⟩=some (.int .i64 l[k]):=(hK.cell (p:=⟨g,o+k,none⟩) (World.block_lt_of_cell? w _ (HC.o k hk)) Hl).trans (HC.o k hk);go_wp2_with fail;go_ret;exact⟨_,rfl,List.getElem_mem hk,hT,hK⟩
theorem Q9h(l:List Int)(i:Nat)(h:i<l.length):((l.map (Value.int .i64)).toArray)[i]? = some (.int .i64 l[i]):=by simp[h]
theorem QZp(B b:Nat)(w:World)(h:QFb B w b) :
 Calls prog 68 #[.pointer (some ⟨b,0,none⟩)] w fun e w'=>∃r,e=.returned (.int .i64 r)∧0≤r∧r≤4294967295∧QFb B w' b∧Qaa (· = b) w w':=by
 go_enter func68,ntmps68;go_wp2_with fail;refine(Q6f B b 0 300 _ h (by omega) (by omega) (by omega)).mono ?_;rintro e w1 ⟨r1,rfl,ha,hb,GU,Gh⟩;go_wp2_with fail;refine(Q6f B b 0 4294967295 _ GU (by omega) (by omega) (by omega)).mono ?_;rintro e w2 ⟨r2,rfl,hc,hd,g8,H3⟩;have Hh:=g8.lt;have Hg:Below w2.heap.size w2 (w2.alloc (.cells #[.int .i64 0,.int .i64 1,.int .i64 2,.int .i64 3,.int .i64 5,.int .i64 31,.int .i64 32,.int .i64 r1,.int .i64 4294967295,.int .i64 2147483648,.int .i64 r2] 3)):=Bq;have Gj:=g8.keeps (Qaa.of_fresh Hg (fun _=>False)) (fun _ e=>e.elim);have hH:=Holds.new w2 (([0,1,2,3,5,31,32,r1,4294967295,2147483648,r2]:List Int).map (Value.int .i64)).toArray 3;have hc':∀(i:Nat) (h:i<([0,1,2,3,5,31,32,r1,4294967295,2147483648,r2]:List Int).length),(w2.alloc (.cells #[.int .i64 0,.int .i64 1,.int .i64 2,.int .i64 3,.int .i64 5,.int .i64 31,.int .i64 32,.int .i64 r1,.int .i64 4294967295,.int .i64 2147483648,.int .i64 r2] 3)).cell? ⟨w2.heap.size,0+i,none⟩=some (.int .i64 ([0,1,2,3,5,31,32,r1,4294967295,2147483648,r2]:List Int)[i]):=by
  intro i hi;rw[Nat.zero_add];exact(hH.cell i).trans (Q9h _ i hi)
 have hp:=Lib.hid (QSh B b w2.heap.size 0 11 [0,1,2,3,5,31,32,r1,4294967295,2147483648,r2] _ Gj (by simp) (by simp) (by omega) hc');have jG:=Gh.trans H3 (fun _ _ e=>e);clear GU g8 Gj hH hc' h Gh H3;go_wp2_with fail;refine(hp.o).mono ?_;rintro e w4 ⟨r,rfl,hr,Mn,KA⟩;go_wp2_with fail;go_ret;have Gz:0≤r∧r≤4294967295:=by simp at hr;omega
 exact⟨r,rfl,Gz.1,Gz.2,Mn,(jG.trans (Qaa.of_fresh Hg (fun i=>i=b)) (fun _ _ e=>e)).trans KA (fun _ _ e=>e)⟩
end Go.Proofs.YtgaboghigefgbaaGreatDoor
