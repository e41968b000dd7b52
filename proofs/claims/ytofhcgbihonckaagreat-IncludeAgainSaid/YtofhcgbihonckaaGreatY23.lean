/- The tape: decimal, bit, shifted. | The tape: Expression. -/
import Derived.Test.YtofhcgbihonckaaGreatY22
import Derived.Test.YtofhcgbihonckaaGreatY11
import Derived.Test.YtofhcgbihonckaaGreatY17
import Derived.BigQuiet
import Derived.Test.YtofhcgbihonckaaGreatY10
set_option linter.all false
set_option maxHeartbeats 8000000
namespace Go.Proofs.YtofhcgbihonckaaGreat
open Go.Lib (hid)
open Go.RowKit
theorem Qvd(h:Bool)(w:World):Calls Tryz.prog 135 #[.bool h] w fun e w'=>e = .returned (.int .u32 (Qvc h))∧w=w':=by
 cases h
 ·go_enter Tryz.func135,Tryz.ntmps135
  go_wp2_with fail
  go_ret
  exact⟨rfl,rfl⟩
 ·go_enter Tryz.func135,Tryz.ntmps135
  go_wp2_with fail
  go_ret
  exact⟨rfl,rfl⟩
theorem Qem(x y:Int)(h0:0≤x)(h:31<y):QPb 6 x y=0:=by
 show x*2 ^ min y.toNat 32 % 4294967296=0
 rw[Nat.min_eq_right (by omega)]
 omega
theorem Qfm(x y:Int)(h0:0≤x)(h1:x≤4294967295)(h:31<y):QPb 7 x y=0:=by
 show x / 2 ^ min y.toNat 32=0
 rw[Nat.min_eq_right (by omega)]
 omega
theorem QJg(x y:Int)(left:Bool)(w:World)(h0:0≤x)(h1:x≤4294967295)(h2:0≤y)(h3:y≤4294967295) :
 Calls Tryz.prog 134 #[.int .u32 x,.int .u32 y,.bool left] w fun e w'=>e = .returned (.int .u32 (QPb (if left=true then 6 else 7) x y))∧w=w':=by
 by_cases hy:31<y
 ·have e6:=hid (Qem x y h0 hy)
  have e7:=hid (Qfm x y h0 h1 hy)
  cases left
  ·go_enter Tryz.func134,Tryz.ntmps134
   go_wp2_with fail
   go_ret
   exact⟨by rw[e7.out];rfl,rfl⟩
  ·go_enter Tryz.func134,Tryz.ntmps134
   go_wp2_with fail
   go_ret
   exact⟨by rw[e6.out];rfl,rfl⟩
 ·have e6:=hid (show QPb 6 x y=x*2 ^ y.toNat % 4294967296 by show x*2 ^ min y.toNat 32 % 4294967296=_;rw[Nat.min_eq_left (by omega)])
  have e7:=hid (show QPb 7 x y=x / 2 ^ y.toNat by show x / 2 ^ min y.toNat 32=_;rw[Nat.min_eq_left (by omega)])
  cases left
  ·go_enter Tryz.func134,Tryz.ntmps134
   go_wp2_with fail
   go_ret
   exact⟨by rw[e7.out];rfl,rfl⟩
  ·go_enter Tryz.func134,Tryz.ntmps134
   go_wp2_with fail
   go_ret
   exact⟨by rw[e6.out];rfl,rfl⟩
theorem Q7k:∀d:Nat,d<10→(⟨#[48,49,50,51,52,53,54,55,56,57]⟩:ByteArray).extract d (d+1)=⟨#[Q3c false d]⟩:=by
 have:∀x:Fin 10,(⟨#[48,49,50,51,52,53,54,55,56,57]⟩:ByteArray).extract x (x+1)=⟨#[Q3c false x]⟩:=by decide +kernel
 exact fun d h=>this ⟨d,h⟩
set_option maxRecDepth 100000 in
theorem QIg:∀(m n:Nat),n≤m→n≤4294967295→∀(w:World),
 Calls Tryz.prog 133 #[.int .i64 n] w fun e w'=>e = .returned (.string ⟨(Qab 10 false n).toArray⟩)∧∃k,w'=w.drewN k:=by
 intro m
 induction m with
 | zero=>
  intro n hn hb w
  obtain rfl:n=0:=by omega
  go_enter Tryz.func133,Tryz.ntmps133
  go_wp2_with fail
  go_ret
  exact⟨rfl,0,rfl⟩
 | succ m ih=>
  intro n hn hb w
  by_cases gY:n<10
  ·have hI:(n:Int)<10:=by omega
   have h0:(0:Int)≤(n:Int):=by omega
   have hS:=hid (QWa 10 false n gY)
   have hd:=hid (Q7k n gY)
   clear ih
   go_enter Tryz.func133,Tryz.ntmps133
   go_wp2_with fail
   go_ret
   exact⟨by rw[hS.out,←hd.out];rfl,0,rfl⟩
  ·have hI:¬(n:Int)<10:=by omega
   have h0:(0:Int)≤(n:Int):=by omega
   have hG:=QSb 10 false (by omega) n (by omega)
   have hr:=ih (n / 10) (by omega) (by omega)
   have hL:=Qbf (n / 10) (by omega)
   have bC:=Q7k (n % 10) (by omega)
   obtain⟨q,hq⟩:∃q,q=n / 10:=⟨_,rfl⟩
   obtain⟨d,hd⟩:∃d,d=n % 10:=⟨_,rfl⟩
   rw[←hq,←hd]at hG
   rw[←hq]at hr hL
   rw[←hd]at bC
   have uy:(n:Int) / 10=(q:Int):=by omega
   have hqw:IntKind.i64.wrap (q:Int)=(q:Int):=IntWalk.i64_in _ (by omega)
   have hdI:(n:Int) % 10=(d:Int):=by omega
   have fB:(0:Int)≤(d:Int):=by omega
   have hd9:(d:Int)<10:=by omega
   have iR:=Qpa (Qab 10 false q) [Q3c false d] (by simp;omega)
   rw[←hG]at iR
   unfold QYd at iR
   have HG:=hid hG
   clear ih hG hq hd gY hn
   generalize Qab 10 false q=A at *
   generalize Qab 10 false n=B at *
   go_enter Tryz.func133,Tryz.ntmps133
   go_wp2_with fail
   go_quiet ((go_at_call 133;exact(hr _).mono fun _ _ ⟨p,k,q⟩=>⟨p,_,q.trans (World.drewN_drewN ..)⟩))
   go_wp2_with fail
   go_ret
   exact⟨rfl,_,rfl⟩
theorem Qde(s:List UInt8)(hs:s∈Qgm)(r:List UInt8):Lx (32::(s++[32])) [(4,s,0)] r:=
 Lx.append (x:=[32]) (T:=[]) (Lx.sp _) (Lx.append (U:=[]) (Lx.sign r s hs) (Lx.sp r))
def QPh(B b k:Nat)(w:World)(e:Ending)(w':World):Prop:=
 ∃(a:List UInt8) (x:Int),e = .returned (.tuple #[.string ⟨a.toArray⟩,.int .u32 x])∧XG k a x∧QBd B w' b∧Qaa (· = b) w w'
set_option maxRecDepth 100000 in
theorem QAe(B b:Nat)(w:World)(h:QBd B w b):Calls Tryz.prog 115 #[.pointer (some ⟨b,0,none⟩),.int .i64 0] w (QPh B b 0 w):=by
 go_enter Tryz.func115,Tryz.ntmps115
 go_wp2_with fail
 refine(Qfi B b w h).mono ?_
 rintro e w1 ⟨r,rfl,h0,h1,hT,hK⟩
 obtain⟨n,rfl⟩:=Int.eq_ofNat_of_zero_le h0
 have hX:=hid (XG.num 0 n (by omega))
 have hd:=QIg n n (Nat.le_refl _) (by omega) w1
 go_wp2_with fail
 refine hd.mono ?_
 rintro e w2 ⟨rfl,k,rfl⟩
 go_wp2_with fail
 go_ret2
 exact⟨_,_,rfl,hX.out,hT.keeps (Qda _ _) (fun _ e=>e.elim),hK.trans (Qda _ _) (fun _ _ e=>e.elim)⟩
set_option maxRecDepth 100000 in
theorem Qze(B b k:Nat)(hk:k≤4)(ih:∀w,QBd B w b→Calls Tryz.prog 115 #[.pointer (some ⟨b,0,none⟩),.int .i64 k] w (QPh B b k w))(w:World)(h:QBd B w b) :
 Calls Tryz.prog 115 #[.pointer (some ⟨b,0,none⟩),.int .i64 ((k:Int)+1)] w (QPh B b (k+1) w):=by
 unfold QPh at ih
 have kA:((k:Int)+1 == 0)=false:=by rw[beq_eq_false_iff_ne];omega
 have kL:IntKind.i64.wrap ((k:Int)+1-1)=(k:Int):=by rw[IntWalk.i64_in _ (by omega)];omega
 go_enter Tryz.func115,Tryz.ntmps115
 go_wp2_with fail
 refine(Qih B b 5 w h (by omega) (by omega)).mono ?_
 rintro e w1 ⟨r,rfl,r0,r1,Kl,gZ⟩
 by_cases hr:r=0
 ·subst hr
  go_wp2_with fail
  refine(Qfi B b w1 Kl).mono ?_
  rintro e w2 ⟨r,rfl,h0,h1,hT,hK⟩
  obtain⟨n,rfl⟩:=Int.eq_ofNat_of_zero_le h0
  have hX:=hid (XG.num (k+1) n (by omega))
  have hd:=QIg n n (Nat.le_refl _) (by omega) w2
  go_wp2_with fail
  refine hd.mono ?_
  rintro e w3 ⟨rfl,m,rfl⟩
  go_wp2_with fail
  go_ret2
  exact⟨_,_,rfl,hX.out,hT.keeps (Qda _ _) (fun _ e=>e.elim),(gZ.trans hK (fun _ _ e=>e)).trans (Qda _ _) (fun _ _ e=>e.elim)⟩
 ·have uA:(r == 0)=false:=by simpa using hr
  clear hr
  go_wp2_with fail
  refine(ih w1 Kl).mono ?_
  rintro e w2 ⟨a,x,rfl,hA,gX,ga⟩
  go_wp2_with fail
  refine(ih w2 gX).mono ?_
  rintro e w3 ⟨c,y,rfl,hC,ku,gd⟩
  have ny:=hid ((gZ.trans ga (fun _ _ e=>e)).trans gd (fun _ _ e=>e))
  have aY:=hA.len
  have kh:=hC.len
  have ng:Qum k≤100000:=by
   have:k=0∨k=1∨k=2∨k=3∨k=4:=by omega
   rcases this with rfl|rfl|rfl|rfl|rfl <;> decide
  obtain⟨P,hP⟩:∃z,z=[40]++a++[41]:=⟨_,rfl⟩
  obtain⟨Q,hQ⟩:∃z,z=[40]++c++[41]:=⟨_,rfl⟩
  have d1:=Qpa [40] a (by simp;omega)
  have d2:=Qpa ([40]++a) [41] (by simp;omega)
  have d3:=Qpa [40] c (by simp;omega)
  have d4:=Qpa ([40]++c) [41] (by simp;omega)
  unfold QYd at d1 d2 d3 d4
  rw[←hP]at d2
  rw[←hQ]at d4
  have HA:=hid hA
  have HC:=hid hC
  have HP:=hid (show P=40::(a++[41])by rw[hP];rfl)
  have HQ:=hid (show Q=40::(c++[41])by rw[hQ];rfl)
  have HL:=hid (show P.length≤100010∧Q.length≤100010 by rw[hP,hQ];simp;omega)
  have mj:=hA.lo
  have kJ:=hA.hi
  have KA:=hC.lo
  have Ke:=hC.hi
  clear aY kh ng hA hC gZ ga gd ih kA kL hP hQ
  generalize ([40]++a:List UInt8)=a1 at *
  generalize ([40]++c:List UInt8)=c1 at *
  go_wp2_with fail
  clear d1 d2 d3 d4
  refine(Qih B b 20 w3 ku (by omega) (by omega)).mono ?_
  rintro e w4 ⟨r2,rfl,q0,q1,K6,Gn⟩
  have HT:=hid K6
  have HK:=hid (ny.out.trans Gn (fun _ _ e=>e))
  clear K6 Gn ny Kl gX ku h
  have gO:r2=0∨r2=1∨r2=2∨r2=3∨r2=4∨r2=5∨r2=6∨r2=7∨r2=8∨r2=9∨r2=10∨r2=11∨r2=12∨r2=13∨r2=14∨r2=15∨r2=16∨r2=17∨r2=18∨r2=19:=by omega
  clear q0 q1
  rcases gO with rfl|rfl|rfl|rfl|rfl|rfl|rfl|rfl|rfl|rfl|rfl|rfl|rfl|rfl|rfl|rfl|rfl|rfl|rfl|rfl
  ·obtain⟨R,hR⟩:∃z,z=[45]++P:=⟨_,rfl⟩
   have d1:=Qpa [45] P (by have:=HL.out;simp;omega)
   unfold QYd at d1
   rw[←hR]at d1
   have HX:=hid (XO.un (c:=45) (by decide) HA.out)
   have gR:R=45::(40::(a++[41])):=by rw[hR,HP.out];rfl
   rw[←gR]at HX
   clear hR gR
   go_wp2_with fail
   go_ret2
   exact⟨R,_,rfl,HX.out,HT.out,HK.out⟩
  ·obtain⟨R,hR⟩:∃z,z=[126]++P:=⟨_,rfl⟩
   have d1:=Qpa [126] P (by have:=HL.out;simp;omega)
   unfold QYd at d1
   rw[←hR]at d1
   have HX:=hid (XO.un (c:=126) (by decide) HA.out)
   have gR:R=126::(40::(a++[41])):=by rw[hR,HP.out];rfl
   rw[←gR]at HX
   clear hR gR
   have hv:unT ⟨#[126]⟩ x=bits .xor .u32 IntKind.u32.max x:=by rw[Qzj x mj kJ];unfold unT;rw[if_neg (by decide),if_pos rfl]
   rw[hv]at HX
   clear hv
   go_wp2_with fail
   go_ret2
   exact⟨R,_,rfl,HX.out,HT.out,HK.out⟩
  ·obtain⟨R,hR⟩:∃z,z=[33]++P:=⟨_,rfl⟩
   have d1:=Qpa [33] P (by have:=HL.out;simp;omega)
   unfold QYd at d1
   rw[←hR]at d1
   have HX:=hid (XO.un (c:=33) (by decide) HA.out)
   have gR:R=33::(40::(a++[41])):=by rw[hR,HP.out];rfl
   rw[←gR]at HX
   clear hR gR
   by_cases hx:x=0
   ·subst hx
    go_wp2_with fail
    go_ret2
    exact⟨R,_,rfl,HX.out,HT.out,HK.out⟩
   ·have aL:(x == 0)=false:=by simpa using hx
    have hu:unT ⟨#[33]⟩ x=0:=by show Qvc (x == 0)=0;rw[aL];rfl
    rw[hu]at HX
    clear hx hu
    go_wp2_with fail
    go_ret2
    exact⟨R,_,rfl,HX.out,HT.out,HK.out⟩
  ·obtain⟨R,hR⟩:∃z,z=P++[32,43,32]++Q:=⟨_,rfl⟩
   have d1:=Qpa P [32,43,32] (by have:=HL.out;simp;omega)
   have d2:=Qpa (P++[32,43,32]) Q (by have:=HL.out;simp;omega)
   unfold QYd at d1 d2
   rw[←hR]at d2
   have Hm:=QEa 4 x y mj kJ KA Ke
   have HX:=hid (XG.bin (m:=[32,43,32]) (s:=[43]) HA.out HC.out (row:=1) (f:=4) (by simp[Q1c]) (fun r=>Qde [43] (by decide) _) (by decide) (by unfold Qdb;simp) Hm.1 Hm.2)
   have gR:R=40::(a++[41])++([32,43,32]++(40::(c++[41]))):=by rw[hR,HP.out,HQ.out];simp
   rw[←gR]at HX
   clear hR gR Hm
   generalize (P++[32,43,32]:List UInt8)=P2 at *
   go_wp2_with fail
   go_ret2
   exact⟨R,_,rfl,HX.out,HT.out,HK.out⟩
  ·obtain⟨R,hR⟩:∃z,z=P++[45]++Q:=⟨_,rfl⟩
   have d1:=Qpa P [45] (by have:=HL.out;simp;omega)
   have d2:=Qpa (P++[45]) Q (by have:=HL.out;simp;omega)
   unfold QYd at d1 d2
   rw[←hR]at d2
   have Hm:=QEa 5 x y mj kJ KA Ke
   have HX:=hid (XG.bin (m:=[45]) (s:=[45]) HA.out HC.out (row:=1) (f:=5) (by simp[Q1c]) (fun r=>Lx.minus _) (by decide) (by unfold Qdb;simp) Hm.1 Hm.2)
   have gR:R=40::(a++[41])++([45]++(40::(c++[41]))):=by rw[hR,HP.out,HQ.out];simp
   rw[←gR]at HX
   clear hR gR Hm
   generalize (P++[45]:List UInt8)=P2 at *
   go_wp2_with fail
   go_ret2
   exact⟨R,_,rfl,HX.out,HT.out,HK.out⟩
  ·obtain⟨R,hR⟩:∃z,z=P++[32,42,32]++Q:=⟨_,rfl⟩
   have d1:=Qpa P [32,42,32] (by have:=HL.out;simp;omega)
   have d2:=Qpa (P++[32,42,32]) Q (by have:=HL.out;simp;omega)
   unfold QYd at d1 d2
   rw[←hR]at d2
   have Hm:=QEa 1 x y mj kJ KA Ke
   have HX:=hid (XG.bin (m:=[32,42,32]) (s:=[42]) HA.out HC.out (row:=0) (f:=1) (by simp[Q1c]) (fun r=>Qde [42] (by decide) _) (by decide) (by unfold Qdb;simp) Hm.1 Hm.2)
   have gR:R=40::(a++[41])++([32,42,32]++(40::(c++[41]))):=by rw[hR,HP.out,HQ.out];simp
   rw[←gR]at HX
   clear hR gR Hm
   generalize (P++[32,42,32]:List UInt8)=P2 at *
   go_wp2_with fail
   go_ret2
   exact⟨R,_,rfl,HX.out,HT.out,HK.out⟩
  ·by_cases hy:y=0
   ·subst hy
    obtain⟨R,hR⟩:∃z,z=P++[47,32,49]:=⟨_,rfl⟩
    have d1:=Qpa P [47,32,49] (by have:=HL.out;simp;omega)
    unfold QYd at d1
    rw[←hR]at d1
    have HX:=hid (XG.binN (n:=1) (m:=[47]) (s:=[47]) HA.out (row:=0) (f:=2) (by simp[Q1c]) (fun r=>Lx.sign r [47] (by decide)) (by decide) (by decide) (by decide) (show 0≤QPb 2 x (1:Nat)by show 0≤x / 1;omega) (show QPb 2 x (1:Nat)≤4294967295 by show x / 1≤_;omega))
    have gR:R=40::(a++[41])++([47]++(32::Qab 10 false 1)):=by rw[hR,HP.out];simp;rfl
    rw[←gR]at HX
    have hv:QPb 2 x (1:Nat)=x:=by show x / 1=x;omega
    rw[hv]at HX
    clear hR gR hv
    go_wp2_with fail
    go_ret2
    exact⟨R,_,rfl,HX.out,HT.out,HK.out⟩
   ·have aN:(y == 0)=false:=by simpa using hy
    have gM:Qdb 2 y=false:=by unfold Qdb;rw[aN];rfl
    have qB:1≤y:=by omega
    obtain⟨R,hR⟩:∃z,z=P++[32,47,32]++Q:=⟨_,rfl⟩
    have d1:=Qpa P [32,47,32] (by have:=HL.out;simp;omega)
    have d2:=Qpa (P++[32,47,32]) Q (by have:=HL.out;simp;omega)
    unfold QYd at d1 d2
    rw[←hR]at d2
    have Hm:=QEa 2 x y mj kJ KA Ke
    have HX:=hid (XG.bin (m:=[32,47,32]) (s:=[47]) HA.out HC.out (row:=0) (f:=2) (by simp[Q1c]) (fun r=>Qde [47] (by decide) _) (by decide) gM Hm.1 Hm.2)
    have gR:R=40::(a++[41])++([32,47,32]++(40::(c++[41]))):=by rw[hR,HP.out,HQ.out];simp
    rw[←gR]at HX
    clear hR gR Hm
    generalize (P++[32,47,32]:List UInt8)=P2 at *
    clear gM
    go_wp2_with fail
    go_quiet (fail)
    go_wp2_with fail
    go_ret2
    exact⟨R,_,rfl,HX.out,(HT.out.keeps (Qda _ _) (fun _ e=>e.elim)),HK.out.trans (Qda _ _) (fun _ _ e=>e.elim)⟩
  ·by_cases hy:y=0
   ·subst hy
    obtain⟨R,hR⟩:∃z,z=P++[32,37,32,55]:=⟨_,rfl⟩
    have d1:=Qpa P [32,37,32,55] (by have:=HL.out;simp;omega)
    unfold QYd at d1
    rw[←hR]at d1
    have HX:=hid (XG.binN (n:=7) (m:=[32,37]) (s:=[37]) HA.out (row:=0) (f:=3) (by simp[Q1c]) (fun r=>Lx.append (x:=[32]) (T:=[]) (Lx.sp _) (Lx.sign r [37] (by decide))) (by decide) (by decide) (by decide) (show 0≤QPb 3 x (7:Nat)by show 0≤x % 7;omega) (show QPb 3 x (7:Nat)≤4294967295 by show x % 7≤_;omega))
    have gR:R=40::(a++[41])++([32,37]++(32::Qab 10 false 7)):=by rw[hR,HP.out];simp;rfl
    rw[←gR]at HX
    have hv:QPb 3 x (7:Nat)=x % 7:=by rfl
    rw[hv]at HX
    clear hR gR hv
    go_wp2_with fail
    go_ret2
    exact⟨R,_,rfl,HX.out,HT.out,HK.out⟩
   ·have aN:(y == 0)=false:=by simpa using hy
    have gM:Qdb 3 y=false:=by unfold Qdb;rw[aN];rfl
    have qB:1≤y:=by omega
    obtain⟨R,hR⟩:∃z,z=P++[32,37,32]++Q:=⟨_,rfl⟩
    have d1:=Qpa P [32,37,32] (by have:=HL.out;simp;omega)
    have d2:=Qpa (P++[32,37,32]) Q (by have:=HL.out;simp;omega)
    unfold QYd at d1 d2
    rw[←hR]at d2
    have Hm:=QEa 3 x y mj kJ KA Ke
    have HX:=hid (XG.bin (m:=[32,37,32]) (s:=[37]) HA.out HC.out (row:=0) (f:=3) (by simp[Q1c]) (fun r=>Qde [37] (by decide) _) (by decide) gM Hm.1 Hm.2)
    have gR:R=40::(a++[41])++([32,37,32]++(40::(c++[41]))):=by rw[hR,HP.out,HQ.out];simp
    rw[←gR]at HX
    clear hR gR Hm
    generalize (P++[32,37,32]:List UInt8)=P2 at *
    clear gM
    go_wp2_with fail
    go_quiet (fail)
    go_wp2_with fail
    go_ret2
    exact⟨R,_,rfl,HX.out,(HT.out.keeps (Qda _ _) (fun _ e=>e.elim)),HK.out.trans (Qda _ _) (fun _ _ e=>e.elim)⟩
  ·obtain⟨R,hR⟩:∃z,z=P++[32,60,60,32]++Q:=⟨_,rfl⟩
   have d1:=Qpa P [32,60,60,32] (by have:=HL.out;simp;omega)
   have d2:=Qpa (P++[32,60,60,32]) Q (by have:=HL.out;simp;omega)
   unfold QYd at d1 d2
   rw[←hR]at d2
   have Hm:=QEa 6 x y mj kJ KA Ke
   have HX:=hid (XG.bin (m:=[32,60,60,32]) (s:=[60,60]) HA.out HC.out (row:=2) (f:=6) (by simp[Q1c]) (fun r=>Qde [60,60] (by decide) _) (by decide) (by unfold Qdb;simp) Hm.1 Hm.2)
   have gR:R=40::(a++[41])++([32,60,60,32]++(40::(c++[41]))):=by rw[hR,HP.out,HQ.out];simp
   rw[←gR]at HX
   clear hR gR Hm
   generalize (P++[32,60,60,32]:List UInt8)=P2 at *
   go_wp2_with fail
   refine(QJg x y true w4 mj kJ KA Ke).mono ?_
   rintro e w5 ⟨rfl,rfl⟩
   go_wp2_with fail
   go_ret2
   exact⟨R,_,rfl,HX.out,HT.out,HK.out⟩
  ·obtain⟨R,hR⟩:∃z,z=P++[32,62,62,32]++Q:=⟨_,rfl⟩
   have d1:=Qpa P [32,62,62,32] (by have:=HL.out;simp;omega)
   have d2:=Qpa (P++[32,62,62,32]) Q (by have:=HL.out;simp;omega)
   unfold QYd at d1 d2
   rw[←hR]at d2
   have Hm:=QEa 7 x y mj kJ KA Ke
   have HX:=hid (XG.bin (m:=[32,62,62,32]) (s:=[62,62]) HA.out HC.out (row:=2) (f:=7) (by simp[Q1c]) (fun r=>Qde [62,62] (by decide) _) (by decide) (by unfold Qdb;simp) Hm.1 Hm.2)
   have gR:R=40::(a++[41])++([32,62,62,32]++(40::(c++[41]))):=by rw[hR,HP.out,HQ.out];simp
   rw[←gR]at HX
   clear hR gR Hm
   generalize (P++[32,62,62,32]:List UInt8)=P2 at *
   go_wp2_with fail
   refine(QJg x y false w4 mj kJ KA Ke).mono ?_
   rintro e w5 ⟨rfl,rfl⟩
   go_wp2_with fail
   go_ret2
   exact⟨R,_,rfl,HX.out,HT.out,HK.out⟩
  ·obtain⟨R,hR⟩:∃z,z=P++[32,38,32]++Q:=⟨_,rfl⟩
   have d1:=Qpa P [32,38,32] (by have:=HL.out;simp;omega)
   have d2:=Qpa (P++[32,38,32]) Q (by have:=HL.out;simp;omega)
   unfold QYd at d1 d2
   rw[←hR]at d2
   have Hm:=QEa 14 x y mj kJ KA Ke
   have HX:=hid (XG.bin (m:=[32,38,32]) (s:=[38]) HA.out HC.out (row:=5) (f:=14) (by simp[Q1c]) (fun r=>Qde [38] (by decide) _) (by decide) (by unfold Qdb;simp) Hm.1 Hm.2)
   have gR:R=40::(a++[41])++([32,38,32]++(40::(c++[41]))):=by rw[hR,HP.out,HQ.out];simp
   rw[←gR]at HX
   clear hR gR Hm
   generalize (P++[32,38,32]:List UInt8)=P2 at *
   go_wp2_with fail
   go_ret2
   exact⟨R,_,rfl,HX.out,HT.out,HK.out⟩
  ·obtain⟨R,hR⟩:∃z,z=P++[32,124,32]++Q:=⟨_,rfl⟩
   have d1:=Qpa P [32,124,32] (by have:=HL.out;simp;omega)
   have d2:=Qpa (P++[32,124,32]) Q (by have:=HL.out;simp;omega)
   unfold QYd at d1 d2
   rw[←hR]at d2
   have Hm:=QEa 16 x y mj kJ KA Ke
   have HX:=hid (XG.bin (m:=[32,124,32]) (s:=[124]) HA.out HC.out (row:=7) (f:=16) (by simp[Q1c]) (fun r=>Qde [124] (by decide) _) (by decide) (by unfold Qdb;simp) Hm.1 Hm.2)
   have gR:R=40::(a++[41])++([32,124,32]++(40::(c++[41]))):=by rw[hR,HP.out,HQ.out];simp
   rw[←gR]at HX
   clear hR gR Hm
   generalize (P++[32,124,32]:List UInt8)=P2 at *
   go_wp2_with fail
   go_ret2
   exact⟨R,_,rfl,HX.out,HT.out,HK.out⟩
  ·obtain⟨R,hR⟩:∃z,z=P++[32,94,32]++Q:=⟨_,rfl⟩
   have d1:=Qpa P [32,94,32] (by have:=HL.out;simp;omega)
   have d2:=Qpa (P++[32,94,32]) Q (by have:=HL.out;simp;omega)
   unfold QYd at d1 d2
   rw[←hR]at d2
   have Hm:=QEa 15 x y mj kJ KA Ke
   have HX:=hid (XG.bin (m:=[32,94,32]) (s:=[94]) HA.out HC.out (row:=6) (f:=15) (by simp[Q1c]) (fun r=>Qde [94] (by decide) _) (by decide) (by unfold Qdb;simp) Hm.1 Hm.2)
   have gR:R=40::(a++[41])++([32,94,32]++(40::(c++[41]))):=by rw[hR,HP.out,HQ.out];simp
   rw[←gR]at HX
   clear hR gR Hm
   generalize (P++[32,94,32]:List UInt8)=P2 at *
   go_wp2_with fail
   go_ret2
   exact⟨R,_,rfl,HX.out,HT.out,HK.out⟩
  ·obtain⟨R,hR⟩:∃z,z=P++[32,61,61,32]++Q:=⟨_,rfl⟩
   have d1:=Qpa P [32,61,61,32] (by have:=HL.out;simp;omega)
   have d2:=Qpa (P++[32,61,61,32]) Q (by have:=HL.out;simp;omega)
   unfold QYd at d1 d2
   rw[←hR]at d2
   have Hm:=QEa 12 x y mj kJ KA Ke
   have HX:=hid (XG.bin (m:=[32,61,61,32]) (s:=[61,61]) HA.out HC.out (row:=4) (f:=12) (by simp[Q1c]) (fun r=>Qde [61,61] (by decide) _) (by decide) (by unfold Qdb;simp) Hm.1 Hm.2)
   have gR:R=40::(a++[41])++([32,61,61,32]++(40::(c++[41]))):=by rw[hR,HP.out,HQ.out];simp
   rw[←gR]at HX
   clear hR gR Hm
   generalize (P++[32,61,61,32]:List UInt8)=P2 at *
   go_wp2_with fail
   refine(Qvd _ w4).mono ?_
   rintro e w5 ⟨rfl,rfl⟩
   go_wp2_with fail
   go_ret2
   exact⟨R,_,rfl,HX.out,HT.out,HK.out⟩
  ·obtain⟨R,hR⟩:∃z,z=P++[32,33,61,32]++Q:=⟨_,rfl⟩
   have d1:=Qpa P [32,33,61,32] (by have:=HL.out;simp;omega)
   have d2:=Qpa (P++[32,33,61,32]) Q (by have:=HL.out;simp;omega)
   unfold QYd at d1 d2
   rw[←hR]at d2
   have Hm:=QEa 13 x y mj kJ KA Ke
   have HX:=hid (XG.bin (m:=[32,33,61,32]) (s:=[33,61]) HA.out HC.out (row:=4) (f:=13) (by simp[Q1c]) (fun r=>Qde [33,61] (by decide) _) (by decide) (by unfold Qdb;simp) Hm.1 Hm.2)
   have gR:R=40::(a++[41])++([32,33,61,32]++(40::(c++[41]))):=by rw[hR,HP.out,HQ.out];simp
   rw[←gR]at HX
   clear hR gR Hm
   generalize (P++[32,33,61,32]:List UInt8)=P2 at *
   go_wp2_with fail
   refine(Qvd _ w4).mono ?_
   rintro e w5 ⟨rfl,rfl⟩
   go_wp2_with fail
   go_ret2
   exact⟨R,_,rfl,HX.out,HT.out,HK.out⟩
  ·obtain⟨R,hR⟩:∃z,z=P++[32,60,32]++Q:=⟨_,rfl⟩
   have d1:=Qpa P [32,60,32] (by have:=HL.out;simp;omega)
   have d2:=Qpa (P++[32,60,32]) Q (by have:=HL.out;simp;omega)
   unfold QYd at d1 d2
   rw[←hR]at d2
   have Hm:=QEa 8 x y mj kJ KA Ke
   have HX:=hid (XG.bin (m:=[32,60,32]) (s:=[60]) HA.out HC.out (row:=3) (f:=8) (by simp[Q1c]) (fun r=>Qde [60] (by decide) _) (by decide) (by unfold Qdb;simp) Hm.1 Hm.2)
   have gR:R=40::(a++[41])++([32,60,32]++(40::(c++[41]))):=by rw[hR,HP.out,HQ.out];simp
   rw[←gR]at HX
   clear hR gR Hm
   generalize (P++[32,60,32]:List UInt8)=P2 at *
   go_wp2_with fail
   refine(Qvd _ w4).mono ?_
   rintro e w5 ⟨rfl,rfl⟩
   go_wp2_with fail
   go_ret2
   exact⟨R,_,rfl,HX.out,HT.out,HK.out⟩
  ·obtain⟨R,hR⟩:∃z,z=P++[32,62,61,32]++Q:=⟨_,rfl⟩
   have d1:=Qpa P [32,62,61,32] (by have:=HL.out;simp;omega)
   have d2:=Qpa (P++[32,62,61,32]) Q (by have:=HL.out;simp;omega)
   unfold QYd at d1 d2
   rw[←hR]at d2
   have Hm:=QEa 11 x y mj kJ KA Ke
   have HX:=hid (XG.bin (m:=[32,62,61,32]) (s:=[62,61]) HA.out HC.out (row:=3) (f:=11) (by simp[Q1c]) (fun r=>Qde [62,61] (by decide) _) (by decide) (by unfold Qdb;simp) Hm.1 Hm.2)
   have gR:R=40::(a++[41])++([32,62,61,32]++(40::(c++[41]))):=by rw[hR,HP.out,HQ.out];simp
   rw[←gR]at HX
   clear hR gR Hm
   generalize (P++[32,62,61,32]:List UInt8)=P2 at *
   go_wp2_with fail
   refine(Qvd _ w4).mono ?_
   rintro e w5 ⟨rfl,rfl⟩
   go_wp2_with fail
   go_ret2
   exact⟨R,_,rfl,HX.out,HT.out,HK.out⟩
  ·obtain⟨R,hR⟩:∃z,z=P++[32,38,38,32]++Q:=⟨_,rfl⟩
   have d1:=Qpa P [32,38,38,32] (by have:=HL.out;simp;omega)
   have d2:=Qpa (P++[32,38,38,32]) Q (by have:=HL.out;simp;omega)
   unfold QYd at d1 d2
   rw[←hR]at d2
   have Hm:=QEa 17 x y mj kJ KA Ke
   have HX:=hid (XG.bin (m:=[32,38,38,32]) (s:=[38,38]) HA.out HC.out (row:=8) (f:=17) (by simp[Q1c]) (fun r=>Qde [38,38] (by decide) _) (by decide) (by unfold Qdb;simp) Hm.1 Hm.2)
   have gR:R=40::(a++[41])++([32,38,38,32]++(40::(c++[41]))):=by rw[hR,HP.out,HQ.out];simp
   rw[←gR]at HX
   clear hR gR Hm
   generalize (P++[32,38,38,32]:List UInt8)=P2 at *
   by_cases hx:x=0
   ·subst hx
    by_cases hy:y=0
    ·subst hy
     have hv:QPb 17 0 0=Qvc false:=by show Qvc ((0:Int) != 0 && (0:Int) != 0)=_;rfl
     rw[hv]at HX
     clear hv
     go_wp2_with fail
     refine(Qvd _ w4).mono ?_
     rintro e w5 ⟨rfl,rfl⟩
     go_wp2_with fail
     go_ret2
     exact⟨R,_,rfl,HX.out,HT.out,HK.out⟩
    ·have aN:(y != 0)=true:=by simpa using hy
     clear hy
     have hv:QPb 17 0 y=Qvc false:=by show Qvc ((0:Int) != 0 && y != 0)=_;rw[aN];rfl
     rw[hv]at HX
     clear hv
     go_wp2_with fail
     refine(Qvd _ w4).mono ?_
     rintro e w5 ⟨rfl,rfl⟩
     go_wp2_with fail
     go_ret2
     exact⟨R,_,rfl,HX.out,HT.out,HK.out⟩
   ·have aL:(x != 0)=true:=by simpa using hx
    clear hx
    by_cases hy:y=0
    ·subst hy
     have hv:QPb 17 x 0=Qvc false:=by show Qvc (x != 0 && (0:Int) != 0)=_;rw[aL];rfl
     rw[hv]at HX
     clear hv
     go_wp2_with fail
     refine(Qvd _ w4).mono ?_
     rintro e w5 ⟨rfl,rfl⟩
     go_wp2_with fail
     go_ret2
     exact⟨R,_,rfl,HX.out,HT.out,HK.out⟩
    ·have aN:(y != 0)=true:=by simpa using hy
     clear hy
     have hv:QPb 17 x y=Qvc true:=by show Qvc (x != 0 && y != 0)=_;rw[aL];rw[aN];rfl
     rw[hv]at HX
     clear hv
     go_wp2_with fail
     refine(Qvd _ w4).mono ?_
     rintro e w5 ⟨rfl,rfl⟩
     go_wp2_with fail
     go_ret2
     exact⟨R,_,rfl,HX.out,HT.out,HK.out⟩
  ·obtain⟨R,hR⟩:∃z,z=P++[32,124,124,32]++Q:=⟨_,rfl⟩
   have d1:=Qpa P [32,124,124,32] (by have:=HL.out;simp;omega)
   have d2:=Qpa (P++[32,124,124,32]) Q (by have:=HL.out;simp;omega)
   unfold QYd at d1 d2
   rw[←hR]at d2
   have Hm:=QEa 18 x y mj kJ KA Ke
   have HX:=hid (XG.bin (m:=[32,124,124,32]) (s:=[124,124]) HA.out HC.out (row:=9) (f:=18) (by simp[Q1c]) (fun r=>Qde [124,124] (by decide) _) (by decide) (by unfold Qdb;simp) Hm.1 Hm.2)
   have gR:R=40::(a++[41])++([32,124,124,32]++(40::(c++[41]))):=by rw[hR,HP.out,HQ.out];simp
   rw[←gR]at HX
   clear hR gR Hm
   generalize (P++[32,124,124,32]:List UInt8)=P2 at *
   by_cases hx:x=0
   ·subst hx
    by_cases hy:y=0
    ·subst hy
     have hv:QPb 18 0 0=Qvc false:=by show Qvc ((0:Int) != 0 || (0:Int) != 0)=_;rfl
     rw[hv]at HX
     clear hv
     go_wp2_with fail
     refine(Qvd _ w4).mono ?_
     rintro e w5 ⟨rfl,rfl⟩
     go_wp2_with fail
     go_ret2
     exact⟨R,_,rfl,HX.out,HT.out,HK.out⟩
    ·have aN:(y != 0)=true:=by simpa using hy
     clear hy
     have hv:QPb 18 0 y=Qvc true:=by show Qvc ((0:Int) != 0 || y != 0)=_;rw[aN];rfl
     rw[hv]at HX
     clear hv
     go_wp2_with fail
     refine(Qvd _ w4).mono ?_
     rintro e w5 ⟨rfl,rfl⟩
     go_wp2_with fail
     go_ret2
     exact⟨R,_,rfl,HX.out,HT.out,HK.out⟩
   ·have aL:(x != 0)=true:=by simpa using hx
    clear hx
    by_cases hy:y=0
    ·subst hy
     have hv:QPb 18 x 0=Qvc true:=by show Qvc (x != 0 || (0:Int) != 0)=_;rw[aL];rfl
     rw[hv]at HX
     clear hv
     go_wp2_with fail
     refine(Qvd _ w4).mono ?_
     rintro e w5 ⟨rfl,rfl⟩
     go_wp2_with fail
     go_ret2
     exact⟨R,_,rfl,HX.out,HT.out,HK.out⟩
    ·have aN:(y != 0)=true:=by simpa using hy
     clear hy
     have hv:QPb 18 x y=Qvc true:=by show Qvc (x != 0 || y != 0)=_;rw[aL];rw[aN];rfl
     rw[hv]at HX
     clear hv
     go_wp2_with fail
     refine(Qvd _ w4).mono ?_
     rintro e w5 ⟨rfl,rfl⟩
     go_wp2_with fail
     go_ret2
     exact⟨R,_,rfl,HX.out,HT.out,HK.out⟩
  ·obtain⟨R,hR⟩:∃z,z=P++[32,63,32]++Q++[32,58,32,53]:=⟨_,rfl⟩
   have d1:=Qpa P [32,63,32] (by have:=HL.out;simp;omega)
   have d2:=Qpa (P++[32,63,32]) Q (by have:=HL.out;simp;omega)
   have d3:=Qpa (P++[32,63,32]++Q) [32,58,32,53] (by have:=HL.out;simp;omega)
   unfold QYd at d1 d2 d3
   rw[←hR]at d3
   have HX:=hid (XG.cond HA.out HC.out)
   have gR:R=40::(a++[41])++([32,63,32]++(40::(c++[41])++([32,58,32]++Qab 10 false 5))):=by rw[hR,HP.out,HQ.out];simp;rfl
   rw[←gR]at HX
   clear hR gR
   generalize (P++[32,63,32]++Q:List UInt8)=P3 at *
   generalize (P++[32,63,32]:List UInt8)=P2 at *
   by_cases hx:x=0
   ·subst hx
    rw[if_pos rfl]at HX
    go_wp2_with fail
    go_ret2
    exact⟨R,_,rfl,HX.out,HT.out,HK.out⟩
   ·have aL:(x != 0)=true:=by simpa using hx
    rw[if_neg hx]at HX
    clear hx
    go_wp2_with fail
    go_ret2
    exact⟨R,_,rfl,HX.out,HT.out,HK.out⟩
theorem Qhh(B b:Nat):∀(k:Nat),k≤5→∀w,QBd B w b→Calls Tryz.prog 115 #[.pointer (some ⟨b,0,none⟩),.int .i64 k] w (QPh B b k w):=by
 intro k
 induction k with
 | zero=>intro _ w h;exact QAe B b w h
 | succ k ih=>intro hk w h;exact Qze B b k (by omega) (fun w h=>ih (by omega) w h) w h
end Go.Proofs.YtofhcgbihonckaaGreat
