/- The tape: decimal, bit, shifted. | The tape: Expression. -/
import Derived.Test.YtofhcgbihonckaaGreatZ31
import Derived.Test.YtofhcgbihonckaaGreatZ6
import Derived.Test.YtofhcgbihonckaaGreatZ16
import Derived.BigQuiet
import Derived.Test.YtofhcgbihonckaaGreatZ3
set_option linter.all false
set_option maxHeartbeats 8000000
namespace Go.Proofs.YtofhcgbihonckaaGreat
open Go.Lib (hid)
open Go.RowKit
theorem QSd(h:Bool)(w:World):Calls Tryz.prog 135 #[.bool h] w fun e w'=>e = .returned (.int .u32 (QQc h))∧w=w':=by
 cases h
 ·go_enter Tryz.func135,Tryz.ntmps135
  go_wp2_with fail
  go_ret
  exact⟨rfl,rfl⟩
 ·go_enter Tryz.func135,Tryz.ntmps135
  go_wp2_with fail
  go_ret
  exact⟨rfl,rfl⟩
theorem Qdn(x y:Int)(h0:0≤x)(h:31<y):Q4b 6 x y=0:=by
 show x*2 ^ min y.toNat 32 % 4294967296=0
 rw[Nat.min_eq_right (by omega)]
 omega
theorem Qen(x y:Int)(h0:0≤x)(h1:x≤4294967295)(h:31<y):Q4b 7 x y=0:=by
 show x / 2 ^ min y.toNat 32=0
 rw[Nat.min_eq_right (by omega)]
 omega
theorem Qnh(x y:Int)(left:Bool)(w:World)(h0:0≤x)(h1:x≤4294967295)(h2:0≤y)(h3:y≤4294967295) :
 Calls Tryz.prog 134 #[.int .u32 x,.int .u32 y,.bool left] w fun e w'=>e = .returned (.int .u32 (Q4b (if left=true then 6 else 7) x y))∧w=w':=by
 by_cases hy:31<y
 ·have e6:=hid (Qdn x y h0 hy)
  have e7:=hid (Qen x y h0 h1 hy)
  cases left
  ·go_enter Tryz.func134,Tryz.ntmps134
   go_wp2_with fail
   go_ret
   exact⟨by rw[e7.out];rfl,rfl⟩
  ·go_enter Tryz.func134,Tryz.ntmps134
   go_wp2_with fail
   go_ret
   exact⟨by rw[e6.out];rfl,rfl⟩
 ·have e6:=hid (show Q4b 6 x y=x*2 ^ y.toNat % 4294967296 by show x*2 ^ min y.toNat 32 % 4294967296=_;rw[Nat.min_eq_left (by omega)])
  have e7:=hid (show Q4b 7 x y=x / 2 ^ y.toNat by show x / 2 ^ min y.toNat 32=_;rw[Nat.min_eq_left (by omega)])
  cases left
  ·go_enter Tryz.func134,Tryz.ntmps134
   go_wp2_with fail
   go_ret
   exact⟨by rw[e7.out];rfl,rfl⟩
  ·go_enter Tryz.func134,Tryz.ntmps134
   go_wp2_with fail
   go_ret
   exact⟨by rw[e6.out];rfl,rfl⟩
theorem Q4l:∀d:Nat,d<10→(⟨#[48,49,50,51,52,53,54,55,56,57]⟩:ByteArray).extract d (d+1)=⟨#[Qod false d]⟩:=by
 have:∀x:Fin 10,(⟨#[48,49,50,51,52,53,54,55,56,57]⟩:ByteArray).extract x (x+1)=⟨#[Qod false x]⟩:=by decide +kernel
 exact fun d h=>this ⟨d,h⟩
set_option maxRecDepth 100000 in
theorem Qmh:∀(m n:Nat),n≤m→n≤4294967295→∀(w:World),
 Calls Tryz.prog 133 #[.int .i64 n] w fun e w'=>e = .returned (.string ⟨(Qeb 10 false n).toArray⟩)∧∃k,w'=w.drewN k:=by
 intro m
 induction m with
 | zero=>
  intro n hn hb w
  obtain rfl:n=0:=by omega
  go_enter Tryz.func133,Tryz.ntmps133
  go_wp2_with fail
  go_ret
  exact⟨rfl,0,rfl⟩
 | succ m ih=>
  intro n hn hb w
  by_cases Gf:n<10
  ·have hI:(n:Int)<10:=by omega
   have h0:(0:Int)≤(n:Int):=by omega
   have hS:=hid (QXa 10 false n Gf)
   have hd:=hid (Q4l n Gf)
   clear ih
   go_enter Tryz.func133,Tryz.ntmps133
   go_wp2_with fail
   go_ret
   exact⟨by rw[hS.out,←hd.out];rfl,0,rfl⟩
  ·have hI:¬(n:Int)<10:=by omega
   have h0:(0:Int)≤(n:Int):=by omega
   have hG:=Q7b 10 false (by omega) n (by omega)
   have hr:=ih (n / 10) (by omega) (by omega)
   have hL:=QHf (n / 10) (by omega)
   have cZ:=Q4l (n % 10) (by omega)
   obtain⟨q,hq⟩:∃q,q=n / 10:=⟨_,rfl⟩
   obtain⟨d,hd⟩:∃d,d=n % 10:=⟨_,rfl⟩
   rw[←hq,←hd]at hG
   rw[←hq]at hr hL
   rw[←hd]at cZ
   have tA:(n:Int) / 10=(q:Int):=by omega
   have hqw:IntKind.i64.wrap (q:Int)=(q:Int):=IntWalk.i64_in _ (by omega)
   have oo:(n:Int) % 10=(d:Int):=by omega
   have lh:(0:Int)≤(d:Int):=by omega
   have hd9:(d:Int)<10:=by omega
   have nW:=Qta (Qeb 10 false q) [Qod false d] (by simp;omega)
   rw[←hG]at nW
   unfold QSc at nW
   have HG:=hid hG
   clear ih hG hq hd Gf hn
   generalize Qeb 10 false q=A at *
   generalize Qeb 10 false n=B at *
   go_enter Tryz.func133,Tryz.ntmps133
   go_wp2_with fail
   go_quiet ((go_at_call 133;exact(hr _).mono fun _ _ ⟨p,k,q⟩=>⟨p,_,q.trans (World.drewN_drewN ..)⟩))
   go_wp2_with fail
   go_ret
   exact⟨rfl,_,rfl⟩
theorem QDe(s:List UInt8)(hs:s∈Qfn)(r:List UInt8):Lx (32::(s++[32])) [(4,s,0)] r:=
 Lx.append (x:=[32]) (T:=[]) (Lx.sp _) (Lx.append (U:=[]) (Lx.sign r s hs) (Lx.sp r))
def Qpi(B b k:Nat)(w:World)(e:Ending)(w':World):Prop:=
 ∃(a:List UInt8) (x:Int),e = .returned (.tuple #[.string ⟨a.toArray⟩,.int .u32 x])∧XG k a x∧Q3c B w' b∧Qaa (· = b) w w'
set_option maxRecDepth 100000 in
theorem Q2e(B b:Nat)(w:World)(h:Q3c B w b):Calls Tryz.prog 115 #[.pointer (some ⟨b,0,none⟩),.int .i64 0] w (Qpi B b 0 w):=by
 go_enter Tryz.func115,Tryz.ntmps115
 go_wp2_with fail
 refine(QSi B b w h).mono ?_
 rintro e w1 ⟨r,rfl,h0,h1,hT,hK⟩
 obtain⟨n,rfl⟩:=Int.eq_ofNat_of_zero_le h0
 have hX:=hid (XG.num 0 n (by omega))
 have hd:=Qmh n n (Nat.le_refl _) (by omega) w1
 go_wp2_with fail
 refine hd.mono ?_
 rintro e w2 ⟨rfl,k,rfl⟩
 go_wp2_with fail
 go_ret2
 exact⟨_,_,rfl,hX.out,hT.keeps (Qda _ _) (fun _ e=>e.elim),hK.trans (Qda _ _) (fun _ _ e=>e.elim)⟩
set_option maxRecDepth 100000 in
theorem Q1e(B b k:Nat)(hk:k≤4)(ih:∀w,Q3c B w b→Calls Tryz.prog 115 #[.pointer (some ⟨b,0,none⟩),.int .i64 k] w (Qpi B b k w))(w:World)(h:Q3c B w b) :
 Calls Tryz.prog 115 #[.pointer (some ⟨b,0,none⟩),.int .i64 ((k:Int)+1)] w (Qpi B b (k+1) w):=by
 unfold Qpi at ih
 have kR:((k:Int)+1 == 0)=false:=by rw[beq_eq_false_iff_ne];omega
 have Kd:IntKind.i64.wrap ((k:Int)+1-1)=(k:Int):=by rw[IntWalk.i64_in _ (by omega)];omega
 go_enter Tryz.func115,Tryz.ntmps115
 go_wp2_with fail
 refine(Qge B b 5 w h (by omega) (by omega)).mono ?_
 rintro e w1 ⟨r,rfl,r0,r1,Kv,g9⟩
 by_cases hr:r=0
 ·subst hr
  go_wp2_with fail
  refine(QSi B b w1 Kv).mono ?_
  rintro e w2 ⟨r,rfl,h0,h1,hT,hK⟩
  obtain⟨n,rfl⟩:=Int.eq_ofNat_of_zero_le h0
  have hX:=hid (XG.num (k+1) n (by omega))
  have hd:=Qmh n n (Nat.le_refl _) (by omega) w2
  go_wp2_with fail
  refine hd.mono ?_
  rintro e w3 ⟨rfl,m,rfl⟩
  go_wp2_with fail
  go_ret2
  exact⟨_,_,rfl,hX.out,hT.keeps (Qda _ _) (fun _ e=>e.elim),(g9.trans hK (fun _ _ e=>e)).trans (Qda _ _) (fun _ _ e=>e.elim)⟩
 ·have yt:(r == 0)=false:=by simpa using hr
  clear hr
  go_wp2_with fail
  refine(ih w1 Kv).mono ?_
  rintro e w2 ⟨a,x,rfl,hA,gN,ga⟩
  go_wp2_with fail
  refine(ih w2 gN).mono ?_
  rintro e w3 ⟨c,y,rfl,hC,G5,gc⟩
  have qj:=hid ((g9.trans ga (fun _ _ e=>e)).trans gc (fun _ _ e=>e))
  have cu:=hA.len
  have ke:=hC.len
  have pQ:Qsn k≤100000:=by
   have:k=0∨k=1∨k=2∨k=3∨k=4:=by omega
   rcases this with rfl|rfl|rfl|rfl|rfl <;> decide
  obtain⟨P,hP⟩:∃z,z=[40]++a++[41]:=⟨_,rfl⟩
  obtain⟨Q,hQ⟩:∃z,z=[40]++c++[41]:=⟨_,rfl⟩
  have d1:=Qta [40] a (by simp;omega)
  have d2:=Qta ([40]++a) [41] (by simp;omega)
  have d3:=Qta [40] c (by simp;omega)
  have d4:=Qta ([40]++c) [41] (by simp;omega)
  unfold QSc at d1 d2 d3 d4
  rw[←hP]at d2
  rw[←hQ]at d4
  have HA:=hid hA
  have HC:=hid hC
  have HP:=hid (show P=40::(a++[41])by rw[hP];rfl)
  have HQ:=hid (show Q=40::(c++[41])by rw[hQ];rfl)
  have HL:=hid (show P.length≤100010∧Q.length≤100010 by rw[hP,hQ];simp;omega)
  have mH:=hA.lo
  have Kr:=hA.hi
  have kV:=hC.lo
  have kI:=hC.hi
  clear cu ke pQ hA hC g9 ga gc ih kR Kd hP hQ
  generalize ([40]++a:List UInt8)=a1 at *
  generalize ([40]++c:List UInt8)=c1 at *
  go_wp2_with fail
  clear d1 d2 d3 d4
  refine(Qge B b 20 w3 G5 (by omega) (by omega)).mono ?_
  rintro e w4 ⟨r2,rfl,q0,q1,G6,gD⟩
  have HT:=hid G6
  have HK:=hid (qj.out.trans gD (fun _ _ e=>e))
  clear G6 gD qj Kv gN G5 h
  have Hx:r2=0∨r2=1∨r2=2∨r2=3∨r2=4∨r2=5∨r2=6∨r2=7∨r2=8∨r2=9∨r2=10∨r2=11∨r2=12∨r2=13∨r2=14∨r2=15∨r2=16∨r2=17∨r2=18∨r2=19:=by omega
  clear q0 q1
  rcases Hx with rfl|rfl|rfl|rfl|rfl|rfl|rfl|rfl|rfl|rfl|rfl|rfl|rfl|rfl|rfl|rfl|rfl|rfl|rfl|rfl
  ·obtain⟨R,hR⟩:∃z,z=[45]++P:=⟨_,rfl⟩
   have d1:=Qta [45] P (by have:=HL.out;simp;omega)
   unfold QSc at d1
   rw[←hR]at d1
   have HX:=hid (XO.un (c:=45) (by decide) HA.out)
   have Gc:R=45::(40::(a++[41])):=by rw[hR,HP.out];rfl
   rw[←Gc]at HX
   clear hR Gc
   go_wp2_with fail
   go_ret2
   exact⟨R,_,rfl,HX.out,HT.out,HK.out⟩
  ·obtain⟨R,hR⟩:∃z,z=[126]++P:=⟨_,rfl⟩
   have d1:=Qta [126] P (by have:=HL.out;simp;omega)
   unfold QSc at d1
   rw[←hR]at d1
   have HX:=hid (XO.un (c:=126) (by decide) HA.out)
   have Gc:R=126::(40::(a++[41])):=by rw[hR,HP.out];rfl
   rw[←Gc]at HX
   clear hR Gc
   have hv:unT ⟨#[126]⟩ x=bits .xor .u32 IntKind.u32.max x:=by rw[Qok x mH Kr];unfold unT;rw[if_neg (by decide),if_pos rfl]
   rw[hv]at HX
   clear hv
   go_wp2_with fail
   go_ret2
   exact⟨R,_,rfl,HX.out,HT.out,HK.out⟩
  ·obtain⟨R,hR⟩:∃z,z=[33]++P:=⟨_,rfl⟩
   have d1:=Qta [33] P (by have:=HL.out;simp;omega)
   unfold QSc at d1
   rw[←hR]at d1
   have HX:=hid (XO.un (c:=33) (by decide) HA.out)
   have Gc:R=33::(40::(a++[41])):=by rw[hR,HP.out];rfl
   rw[←Gc]at HX
   clear hR Gc
   by_cases hx:x=0
   ·subst hx
    go_wp2_with fail
    go_ret2
    exact⟨R,_,rfl,HX.out,HT.out,HK.out⟩
   ·have bZ:(x == 0)=false:=by simpa using hx
    have hu:unT ⟨#[33]⟩ x=0:=by show QQc (x == 0)=0;rw[bZ];rfl
    rw[hu]at HX
    clear hx hu
    go_wp2_with fail
    go_ret2
    exact⟨R,_,rfl,HX.out,HT.out,HK.out⟩
  ·obtain⟨R,hR⟩:∃z,z=P++[32,43,32]++Q:=⟨_,rfl⟩
   have d1:=Qta P [32,43,32] (by have:=HL.out;simp;omega)
   have d2:=Qta (P++[32,43,32]) Q (by have:=HL.out;simp;omega)
   unfold QSc at d1 d2
   rw[←hR]at d2
   have Hm:=QGa 4 x y mH Kr kV kI
   have HX:=hid (XG.bin (m:=[32,43,32]) (s:=[43]) HA.out HC.out (row:=1) (f:=4) (by simp[Qmd]) (fun r=>QDe [43] (by decide) _) (by decide) (by unfold Qib;simp) Hm.1 Hm.2)
   have Gc:R=40::(a++[41])++([32,43,32]++(40::(c++[41]))):=by rw[hR,HP.out,HQ.out];simp
   rw[←Gc]at HX
   clear hR Gc Hm
   generalize (P++[32,43,32]:List UInt8)=P2 at *
   go_wp2_with fail
   go_ret2
   exact⟨R,_,rfl,HX.out,HT.out,HK.out⟩
  ·obtain⟨R,hR⟩:∃z,z=P++[45]++Q:=⟨_,rfl⟩
   have d1:=Qta P [45] (by have:=HL.out;simp;omega)
   have d2:=Qta (P++[45]) Q (by have:=HL.out;simp;omega)
   unfold QSc at d1 d2
   rw[←hR]at d2
   have Hm:=QGa 5 x y mH Kr kV kI
   have HX:=hid (XG.bin (m:=[45]) (s:=[45]) HA.out HC.out (row:=1) (f:=5) (by simp[Qmd]) (fun r=>Lx.minus _) (by decide) (by unfold Qib;simp) Hm.1 Hm.2)
   have Gc:R=40::(a++[41])++([45]++(40::(c++[41]))):=by rw[hR,HP.out,HQ.out];simp
   rw[←Gc]at HX
   clear hR Gc Hm
   generalize (P++[45]:List UInt8)=P2 at *
   go_wp2_with fail
   go_ret2
   exact⟨R,_,rfl,HX.out,HT.out,HK.out⟩
  ·obtain⟨R,hR⟩:∃z,z=P++[32,42,32]++Q:=⟨_,rfl⟩
   have d1:=Qta P [32,42,32] (by have:=HL.out;simp;omega)
   have d2:=Qta (P++[32,42,32]) Q (by have:=HL.out;simp;omega)
   unfold QSc at d1 d2
   rw[←hR]at d2
   have Hm:=QGa 1 x y mH Kr kV kI
   have HX:=hid (XG.bin (m:=[32,42,32]) (s:=[42]) HA.out HC.out (row:=0) (f:=1) (by simp[Qmd]) (fun r=>QDe [42] (by decide) _) (by decide) (by unfold Qib;simp) Hm.1 Hm.2)
   have Gc:R=40::(a++[41])++([32,42,32]++(40::(c++[41]))):=by rw[hR,HP.out,HQ.out];simp
   rw[←Gc]at HX
   clear hR Gc Hm
   generalize (P++[32,42,32]:List UInt8)=P2 at *
   go_wp2_with fail
   go_ret2
   exact⟨R,_,rfl,HX.out,HT.out,HK.out⟩
  ·by_cases hy:y=0
   ·subst hy
    obtain⟨R,hR⟩:∃z,z=P++[47,32,49]:=⟨_,rfl⟩
    have d1:=Qta P [47,32,49] (by have:=HL.out;simp;omega)
    unfold QSc at d1
    rw[←hR]at d1
    have HX:=hid (XG.binN (n:=1) (m:=[47]) (s:=[47]) HA.out (row:=0) (f:=2) (by simp[Qmd]) (fun r=>Lx.sign r [47] (by decide)) (by decide) (by decide) (by decide) (show 0≤Q4b 2 x (1:Nat)by show 0≤x / 1;omega) (show Q4b 2 x (1:Nat)≤4294967295 by show x / 1≤_;omega))
    have Gc:R=40::(a++[41])++([47]++(32::Qeb 10 false 1)):=by rw[hR,HP.out];simp;rfl
    rw[←Gc]at HX
    have hv:Q4b 2 x (1:Nat)=x:=by show x / 1=x;omega
    rw[hv]at HX
    clear hR Gc hv
    go_wp2_with fail
    go_ret2
    exact⟨R,_,rfl,HX.out,HT.out,HK.out⟩
   ·have ce:(y == 0)=false:=by simpa using hy
    have g8:Qib 2 y=false:=by unfold Qib;rw[ce];rfl
    have tN:1≤y:=by omega
    obtain⟨R,hR⟩:∃z,z=P++[32,47,32]++Q:=⟨_,rfl⟩
    have d1:=Qta P [32,47,32] (by have:=HL.out;simp;omega)
    have d2:=Qta (P++[32,47,32]) Q (by have:=HL.out;simp;omega)
    unfold QSc at d1 d2
    rw[←hR]at d2
    have Hm:=QGa 2 x y mH Kr kV kI
    have HX:=hid (XG.bin (m:=[32,47,32]) (s:=[47]) HA.out HC.out (row:=0) (f:=2) (by simp[Qmd]) (fun r=>QDe [47] (by decide) _) (by decide) g8 Hm.1 Hm.2)
    have Gc:R=40::(a++[41])++([32,47,32]++(40::(c++[41]))):=by rw[hR,HP.out,HQ.out];simp
    rw[←Gc]at HX
    clear hR Gc Hm
    generalize (P++[32,47,32]:List UInt8)=P2 at *
    clear g8
    go_wp2_with fail
    go_quiet (fail)
    go_wp2_with fail
    go_ret2
    exact⟨R,_,rfl,HX.out,(HT.out.keeps (Qda _ _) (fun _ e=>e.elim)),HK.out.trans (Qda _ _) (fun _ _ e=>e.elim)⟩
  ·by_cases hy:y=0
   ·subst hy
    obtain⟨R,hR⟩:∃z,z=P++[32,37,32,55]:=⟨_,rfl⟩
    have d1:=Qta P [32,37,32,55] (by have:=HL.out;simp;omega)
    unfold QSc at d1
    rw[←hR]at d1
    have HX:=hid (XG.binN (n:=7) (m:=[32,37]) (s:=[37]) HA.out (row:=0) (f:=3) (by simp[Qmd]) (fun r=>Lx.append (x:=[32]) (T:=[]) (Lx.sp _) (Lx.sign r [37] (by decide))) (by decide) (by decide) (by decide) (show 0≤Q4b 3 x (7:Nat)by show 0≤x % 7;omega) (show Q4b 3 x (7:Nat)≤4294967295 by show x % 7≤_;omega))
    have Gc:R=40::(a++[41])++([32,37]++(32::Qeb 10 false 7)):=by rw[hR,HP.out];simp;rfl
    rw[←Gc]at HX
    have hv:Q4b 3 x (7:Nat)=x % 7:=by rfl
    rw[hv]at HX
    clear hR Gc hv
    go_wp2_with fail
    go_ret2
    exact⟨R,_,rfl,HX.out,HT.out,HK.out⟩
   ·have ce:(y == 0)=false:=by simpa using hy
    have g8:Qib 3 y=false:=by unfold Qib;rw[ce];rfl
    have tN:1≤y:=by omega
    obtain⟨R,hR⟩:∃z,z=P++[32,37,32]++Q:=⟨_,rfl⟩
    have d1:=Qta P [32,37,32] (by have:=HL.out;simp;omega)
    have d2:=Qta (P++[32,37,32]) Q (by have:=HL.out;simp;omega)
    unfold QSc at d1 d2
    rw[←hR]at d2
    have Hm:=QGa 3 x y mH Kr kV kI
    have HX:=hid (XG.bin (m:=[32,37,32]) (s:=[37]) HA.out HC.out (row:=0) (f:=3) (by simp[Qmd]) (fun r=>QDe [37] (by decide) _) (by decide) g8 Hm.1 Hm.2)
    have Gc:R=40::(a++[41])++([32,37,32]++(40::(c++[41]))):=by rw[hR,HP.out,HQ.out];simp
    rw[←Gc]at HX
    clear hR Gc Hm
    generalize (P++[32,37,32]:List UInt8)=P2 at *
    clear g8
    go_wp2_with fail
    go_quiet (fail)
    go_wp2_with fail
    go_ret2
    exact⟨R,_,rfl,HX.out,(HT.out.keeps (Qda _ _) (fun _ e=>e.elim)),HK.out.trans (Qda _ _) (fun _ _ e=>e.elim)⟩
  ·obtain⟨R,hR⟩:∃z,z=P++[32,60,60,32]++Q:=⟨_,rfl⟩
   have d1:=Qta P [32,60,60,32] (by have:=HL.out;simp;omega)
   have d2:=Qta (P++[32,60,60,32]) Q (by have:=HL.out;simp;omega)
   unfold QSc at d1 d2
   rw[←hR]at d2
   have Hm:=QGa 6 x y mH Kr kV kI
   have HX:=hid (XG.bin (m:=[32,60,60,32]) (s:=[60,60]) HA.out HC.out (row:=2) (f:=6) (by simp[Qmd]) (fun r=>QDe [60,60] (by decide) _) (by decide) (by unfold Qib;simp) Hm.1 Hm.2)
   have Gc:R=40::(a++[41])++([32,60,60,32]++(40::(c++[41]))):=by rw[hR,HP.out,HQ.out];simp
   rw[←Gc]at HX
   clear hR Gc Hm
   generalize (P++[32,60,60,32]:List UInt8)=P2 at *
   go_wp2_with fail
   refine(Qnh x y true w4 mH Kr kV kI).mono ?_
   rintro e w5 ⟨rfl,rfl⟩
   go_wp2_with fail
   go_ret2
   exact⟨R,_,rfl,HX.out,HT.out,HK.out⟩
  ·obtain⟨R,hR⟩:∃z,z=P++[32,62,62,32]++Q:=⟨_,rfl⟩
   have d1:=Qta P [32,62,62,32] (by have:=HL.out;simp;omega)
   have d2:=Qta (P++[32,62,62,32]) Q (by have:=HL.out;simp;omega)
   unfold QSc at d1 d2
   rw[←hR]at d2
   have Hm:=QGa 7 x y mH Kr kV kI
   have HX:=hid (XG.bin (m:=[32,62,62,32]) (s:=[62,62]) HA.out HC.out (row:=2) (f:=7) (by simp[Qmd]) (fun r=>QDe [62,62] (by decide) _) (by decide) (by unfold Qib;simp) Hm.1 Hm.2)
   have Gc:R=40::(a++[41])++([32,62,62,32]++(40::(c++[41]))):=by rw[hR,HP.out,HQ.out];simp
   rw[←Gc]at HX
   clear hR Gc Hm
   generalize (P++[32,62,62,32]:List UInt8)=P2 at *
   go_wp2_with fail
   refine(Qnh x y false w4 mH Kr kV kI).mono ?_
   rintro e w5 ⟨rfl,rfl⟩
   go_wp2_with fail
   go_ret2
   exact⟨R,_,rfl,HX.out,HT.out,HK.out⟩
  ·obtain⟨R,hR⟩:∃z,z=P++[32,38,32]++Q:=⟨_,rfl⟩
   have d1:=Qta P [32,38,32] (by have:=HL.out;simp;omega)
   have d2:=Qta (P++[32,38,32]) Q (by have:=HL.out;simp;omega)
   unfold QSc at d1 d2
   rw[←hR]at d2
   have Hm:=QGa 14 x y mH Kr kV kI
   have HX:=hid (XG.bin (m:=[32,38,32]) (s:=[38]) HA.out HC.out (row:=5) (f:=14) (by simp[Qmd]) (fun r=>QDe [38] (by decide) _) (by decide) (by unfold Qib;simp) Hm.1 Hm.2)
   have Gc:R=40::(a++[41])++([32,38,32]++(40::(c++[41]))):=by rw[hR,HP.out,HQ.out];simp
   rw[←Gc]at HX
   clear hR Gc Hm
   generalize (P++[32,38,32]:List UInt8)=P2 at *
   go_wp2_with fail
   go_ret2
   exact⟨R,_,rfl,HX.out,HT.out,HK.out⟩
  ·obtain⟨R,hR⟩:∃z,z=P++[32,124,32]++Q:=⟨_,rfl⟩
   have d1:=Qta P [32,124,32] (by have:=HL.out;simp;omega)
   have d2:=Qta (P++[32,124,32]) Q (by have:=HL.out;simp;omega)
   unfold QSc at d1 d2
   rw[←hR]at d2
   have Hm:=QGa 16 x y mH Kr kV kI
   have HX:=hid (XG.bin (m:=[32,124,32]) (s:=[124]) HA.out HC.out (row:=7) (f:=16) (by simp[Qmd]) (fun r=>QDe [124] (by decide) _) (by decide) (by unfold Qib;simp) Hm.1 Hm.2)
   have Gc:R=40::(a++[41])++([32,124,32]++(40::(c++[41]))):=by rw[hR,HP.out,HQ.out];simp
   rw[←Gc]at HX
   clear hR Gc Hm
   generalize (P++[32,124,32]:List UInt8)=P2 at *
   go_wp2_with fail
   go_ret2
   exact⟨R,_,rfl,HX.out,HT.out,HK.out⟩
  ·obtain⟨R,hR⟩:∃z,z=P++[32,94,32]++Q:=⟨_,rfl⟩
   have d1:=Qta P [32,94,32] (by have:=HL.out;simp;omega)
   have d2:=Qta (P++[32,94,32]) Q (by have:=HL.out;simp;omega)
   unfold QSc at d1 d2
   rw[←hR]at d2
   have Hm:=QGa 15 x y mH Kr kV kI
   have HX:=hid (XG.bin (m:=[32,94,32]) (s:=[94]) HA.out HC.out (row:=6) (f:=15) (by simp[Qmd]) (fun r=>QDe [94] (by decide) _) (by decide) (by unfold Qib;simp) Hm.1 Hm.2)
   have Gc:R=40::(a++[41])++([32,94,32]++(40::(c++[41]))):=by rw[hR,HP.out,HQ.out];simp
   rw[←Gc]at HX
   clear hR Gc Hm
   generalize (P++[32,94,32]:List UInt8)=P2 at *
   go_wp2_with fail
   go_ret2
   exact⟨R,_,rfl,HX.out,HT.out,HK.out⟩
  ·obtain⟨R,hR⟩:∃z,z=P++[32,61,61,32]++Q:=⟨_,rfl⟩
   have d1:=Qta P [32,61,61,32] (by have:=HL.out;simp;omega)
   have d2:=Qta (P++[32,61,61,32]) Q (by have:=HL.out;simp;omega)
   unfold QSc at d1 d2
   rw[←hR]at d2
   have Hm:=QGa 12 x y mH Kr kV kI
   have HX:=hid (XG.bin (m:=[32,61,61,32]) (s:=[61,61]) HA.out HC.out (row:=4) (f:=12) (by simp[Qmd]) (fun r=>QDe [61,61] (by decide) _) (by decide) (by unfold Qib;simp) Hm.1 Hm.2)
   have Gc:R=40::(a++[41])++([32,61,61,32]++(40::(c++[41]))):=by rw[hR,HP.out,HQ.out];simp
   rw[←Gc]at HX
   clear hR Gc Hm
   generalize (P++[32,61,61,32]:List UInt8)=P2 at *
   go_wp2_with fail
   refine(QSd _ w4).mono ?_
   rintro e w5 ⟨rfl,rfl⟩
   go_wp2_with fail
   go_ret2
   exact⟨R,_,rfl,HX.out,HT.out,HK.out⟩
  ·obtain⟨R,hR⟩:∃z,z=P++[32,33,61,32]++Q:=⟨_,rfl⟩
   have d1:=Qta P [32,33,61,32] (by have:=HL.out;simp;omega)
   have d2:=Qta (P++[32,33,61,32]) Q (by have:=HL.out;simp;omega)
   unfold QSc at d1 d2
   rw[←hR]at d2
   have Hm:=QGa 13 x y mH Kr kV kI
   have HX:=hid (XG.bin (m:=[32,33,61,32]) (s:=[33,61]) HA.out HC.out (row:=4) (f:=13) (by simp[Qmd]) (fun r=>QDe [33,61] (by decide) _) (by decide) (by unfold Qib;simp) Hm.1 Hm.2)
   have Gc:R=40::(a++[41])++([32,33,61,32]++(40::(c++[41]))):=by rw[hR,HP.out,HQ.out];simp
   rw[←Gc]at HX
   clear hR Gc Hm
   generalize (P++[32,33,61,32]:List UInt8)=P2 at *
   go_wp2_with fail
   refine(QSd _ w4).mono ?_
   rintro e w5 ⟨rfl,rfl⟩
   go_wp2_with fail
   go_ret2
   exact⟨R,_,rfl,HX.out,HT.out,HK.out⟩
  ·obtain⟨R,hR⟩:∃z,z=P++[32,60,32]++Q:=⟨_,rfl⟩
   have d1:=Qta P [32,60,32] (by have:=HL.out;simp;omega)
   have d2:=Qta (P++[32,60,32]) Q (by have:=HL.out;simp;omega)
   unfold QSc at d1 d2
   rw[←hR]at d2
   have Hm:=QGa 8 x y mH Kr kV kI
   have HX:=hid (XG.bin (m:=[32,60,32]) (s:=[60]) HA.out HC.out (row:=3) (f:=8) (by simp[Qmd]) (fun r=>QDe [60] (by decide) _) (by decide) (by unfold Qib;simp) Hm.1 Hm.2)
   have Gc:R=40::(a++[41])++([32,60,32]++(40::(c++[41]))):=by rw[hR,HP.out,HQ.out];simp
   rw[←Gc]at HX
   clear hR Gc Hm
   generalize (P++[32,60,32]:List UInt8)=P2 at *
   go_wp2_with fail
   refine(QSd _ w4).mono ?_
   rintro e w5 ⟨rfl,rfl⟩
   go_wp2_with fail
   go_ret2
   exact⟨R,_,rfl,HX.out,HT.out,HK.out⟩
  ·obtain⟨R,hR⟩:∃z,z=P++[32,62,61,32]++Q:=⟨_,rfl⟩
   have d1:=Qta P [32,62,61,32] (by have:=HL.out;simp;omega)
   have d2:=Qta (P++[32,62,61,32]) Q (by have:=HL.out;simp;omega)
   unfold QSc at d1 d2
   rw[←hR]at d2
   have Hm:=QGa 11 x y mH Kr kV kI
   have HX:=hid (XG.bin (m:=[32,62,61,32]) (s:=[62,61]) HA.out HC.out (row:=3) (f:=11) (by simp[Qmd]) (fun r=>QDe [62,61] (by decide) _) (by decide) (by unfold Qib;simp) Hm.1 Hm.2)
   have Gc:R=40::(a++[41])++([32,62,61,32]++(40::(c++[41]))):=by rw[hR,HP.out,HQ.out];simp
   rw[←Gc]at HX
   clear hR Gc Hm
   generalize (P++[32,62,61,32]:List UInt8)=P2 at *
   go_wp2_with fail
   refine(QSd _ w4).mono ?_
   rintro e w5 ⟨rfl,rfl⟩
   go_wp2_with fail
   go_ret2
   exact⟨R,_,rfl,HX.out,HT.out,HK.out⟩
  ·obtain⟨R,hR⟩:∃z,z=P++[32,38,38,32]++Q:=⟨_,rfl⟩
   have d1:=Qta P [32,38,38,32] (by have:=HL.out;simp;omega)
   have d2:=Qta (P++[32,38,38,32]) Q (by have:=HL.out;simp;omega)
   unfold QSc at d1 d2
   rw[←hR]at d2
   have Hm:=QGa 17 x y mH Kr kV kI
   have HX:=hid (XG.bin (m:=[32,38,38,32]) (s:=[38,38]) HA.out HC.out (row:=8) (f:=17) (by simp[Qmd]) (fun r=>QDe [38,38] (by decide) _) (by decide) (by unfold Qib;simp) Hm.1 Hm.2)
   have Gc:R=40::(a++[41])++([32,38,38,32]++(40::(c++[41]))):=by rw[hR,HP.out,HQ.out];simp
   rw[←Gc]at HX
   clear hR Gc Hm
   generalize (P++[32,38,38,32]:List UInt8)=P2 at *
   by_cases hx:x=0
   ·subst hx
    by_cases hy:y=0
    ·subst hy
     have hv:Q4b 17 0 0=QQc false:=by show QQc ((0:Int) != 0 && (0:Int) != 0)=_;rfl
     rw[hv]at HX
     clear hv
     go_wp2_with fail
     refine(QSd _ w4).mono ?_
     rintro e w5 ⟨rfl,rfl⟩
     go_wp2_with fail
     go_ret2
     exact⟨R,_,rfl,HX.out,HT.out,HK.out⟩
    ·have ce:(y != 0)=true:=by simpa using hy
     clear hy
     have hv:Q4b 17 0 y=QQc false:=by show QQc ((0:Int) != 0 && y != 0)=_;rw[ce];rfl
     rw[hv]at HX
     clear hv
     go_wp2_with fail
     refine(QSd _ w4).mono ?_
     rintro e w5 ⟨rfl,rfl⟩
     go_wp2_with fail
     go_ret2
     exact⟨R,_,rfl,HX.out,HT.out,HK.out⟩
   ·have bZ:(x != 0)=true:=by simpa using hx
    clear hx
    by_cases hy:y=0
    ·subst hy
     have hv:Q4b 17 x 0=QQc false:=by show QQc (x != 0 && (0:Int) != 0)=_;rw[bZ];rfl
     rw[hv]at HX
     clear hv
     go_wp2_with fail
     refine(QSd _ w4).mono ?_
     rintro e w5 ⟨rfl,rfl⟩
     go_wp2_with fail
     go_ret2
     exact⟨R,_,rfl,HX.out,HT.out,HK.out⟩
    ·have ce:(y != 0)=true:=by simpa using hy
     clear hy
     have hv:Q4b 17 x y=QQc true:=by show QQc (x != 0 && y != 0)=_;rw[bZ];rw[ce];rfl
     rw[hv]at HX
     clear hv
     go_wp2_with fail
     refine(QSd _ w4).mono ?_
     rintro e w5 ⟨rfl,rfl⟩
     go_wp2_with fail
     go_ret2
     exact⟨R,_,rfl,HX.out,HT.out,HK.out⟩
  ·obtain⟨R,hR⟩:∃z,z=P++[32,124,124,32]++Q:=⟨_,rfl⟩
   have d1:=Qta P [32,124,124,32] (by have:=HL.out;simp;omega)
   have d2:=Qta (P++[32,124,124,32]) Q (by have:=HL.out;simp;omega)
   unfold QSc at d1 d2
   rw[←hR]at d2
   have Hm:=QGa 18 x y mH Kr kV kI
   have HX:=hid (XG.bin (m:=[32,124,124,32]) (s:=[124,124]) HA.out HC.out (row:=9) (f:=18) (by simp[Qmd]) (fun r=>QDe [124,124] (by decide) _) (by decide) (by unfold Qib;simp) Hm.1 Hm.2)
   have Gc:R=40::(a++[41])++([32,124,124,32]++(40::(c++[41]))):=by rw[hR,HP.out,HQ.out];simp
   rw[←Gc]at HX
   clear hR Gc Hm
   generalize (P++[32,124,124,32]:List UInt8)=P2 at *
   by_cases hx:x=0
   ·subst hx
    by_cases hy:y=0
    ·subst hy
     have hv:Q4b 18 0 0=QQc false:=by show QQc ((0:Int) != 0 || (0:Int) != 0)=_;rfl
     rw[hv]at HX
     clear hv
     go_wp2_with fail
     refine(QSd _ w4).mono ?_
     rintro e w5 ⟨rfl,rfl⟩
     go_wp2_with fail
     go_ret2
     exact⟨R,_,rfl,HX.out,HT.out,HK.out⟩
    ·have ce:(y != 0)=true:=by simpa using hy
     clear hy
     have hv:Q4b 18 0 y=QQc true:=by show QQc ((0:Int) != 0 || y != 0)=_;rw[ce];rfl
     rw[hv]at HX
     clear hv
     go_wp2_with fail
     refine(QSd _ w4).mono ?_
     rintro e w5 ⟨rfl,rfl⟩
     go_wp2_with fail
     go_ret2
     exact⟨R,_,rfl,HX.out,HT.out,HK.out⟩
   ·have bZ:(x != 0)=true:=by simpa using hx
    clear hx
    by_cases hy:y=0
    ·subst hy
     have hv:Q4b 18 x 0=QQc true:=by show QQc (x != 0 || (0:Int) != 0)=_;rw[bZ];rfl
     rw[hv]at HX
     clear hv
     go_wp2_with fail
     refine(QSd _ w4).mono ?_
     rintro e w5 ⟨rfl,rfl⟩
     go_wp2_with fail
     go_ret2
     exact⟨R,_,rfl,HX.out,HT.out,HK.out⟩
    ·have ce:(y != 0)=true:=by simpa using hy
     clear hy
     have hv:Q4b 18 x y=QQc true:=by show QQc (x != 0 || y != 0)=_;rw[bZ];rw[ce];rfl
     rw[hv]at HX
     clear hv
     go_wp2_with fail
     refine(QSd _ w4).mono ?_
     rintro e w5 ⟨rfl,rfl⟩
     go_wp2_with fail
     go_ret2
     exact⟨R,_,rfl,HX.out,HT.out,HK.out⟩
  ·obtain⟨R,hR⟩:∃z,z=P++[32,63,32]++Q++[32,58,32,53]:=⟨_,rfl⟩
   have d1:=Qta P [32,63,32] (by have:=HL.out;simp;omega)
   have d2:=Qta (P++[32,63,32]) Q (by have:=HL.out;simp;omega)
   have d3:=Qta (P++[32,63,32]++Q) [32,58,32,53] (by have:=HL.out;simp;omega)
   unfold QSc at d1 d2 d3
   rw[←hR]at d3
   have HX:=hid (XG.cond HA.out HC.out)
   have Gc:R=40::(a++[41])++([32,63,32]++(40::(c++[41])++([32,58,32]++Qeb 10 false 5))):=by rw[hR,HP.out,HQ.out];simp;rfl
   rw[←Gc]at HX
   clear hR Gc
   generalize (P++[32,63,32]++Q:List UInt8)=P3 at *
   generalize (P++[32,63,32]:List UInt8)=P2 at *
   by_cases hx:x=0
   ·subst hx
    rw[if_pos rfl]at HX
    go_wp2_with fail
    go_ret2
    exact⟨R,_,rfl,HX.out,HT.out,HK.out⟩
   ·have bZ:(x != 0)=true:=by simpa using hx
    rw[if_neg hx]at HX
    clear hx
    go_wp2_with fail
    go_ret2
    exact⟨R,_,rfl,HX.out,HT.out,HK.out⟩
theorem QWh(B b:Nat):∀(k:Nat),k≤5→∀w,Q3c B w b→Calls Tryz.prog 115 #[.pointer (some ⟨b,0,none⟩),.int .i64 k] w (Qpi B b k w):=by
 intro k
 induction k with
 | zero=>intro _ w h;exact Q2e B b w h
 | succ k ih=>intro hk w h;exact Q1e B b k (by omega) (fun w h=>ih (by omega) w h) w h
end Go.Proofs.YtofhcgbihonckaaGreat
