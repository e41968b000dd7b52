/- Contracts of bringupgrow: with, wide; a tree of the call's own beside a tape. | Contracts of bringupgrow: Value: some string of at most 100 bytes. | Contracts of bringupgrow: Path. | Contracts of bringupgrow: Step. | Contracts of bringupgrow: region 9 of Tree (printed by gset.py). | Contracts of bringupgrow: Tree (loop 1 done; loop 2 not yet). -/
import Derived.Test.YtgaboghigefgbaaGreatDoorZ35
import Derived.Test.YtgaboghigefgbaaGreatDoorZ28
import Derived.Test.YtgaboghigefgbaaGreatDoorZ32
import Derived.Deep.DeepCutAuto
import Derived.Deep.CutBlock
import Derived.Test.YtgaboghigefgbaaGreatDoorZ1
import Derived.Test.YtgaboghigefgbaaGreatDoorZ2
import Derived.Test.YtgaboghigefgbaaGreatDoorZ13
set_option linter.all false
set_option maxHeartbeats 8000000
namespace Go.Proofs.YtgaboghigefgbaaGreatDoor
open Go.Lib (hid)
open Go.RowKit
theorem Qtc.holds{B b:Nat}{w:World}(h:Qtc B w b):∃cs,Holds w b cs 63:=by
 obtain⟨_,_,_,_,_,hH,_⟩:=h;exact⟨_,hH⟩
theorem Qda.tape{B b base:Nat}{w w':World}{v:Value}{T:List Qba}(h:Qda w base v T)(ht:Qtc B w b)(k:Qaa (· = b) w w'):Qda w' base v T:=by
 obtain⟨cs,hH⟩:=ht.holds
 exact h.other hH (by decide) (by decide) k
theorem Qtc.new{B b:Nat}{w w':World}(h:Qtc B w b)(k:Below w.heap.size w w'):Qtc B w' b:=h.keeps (Qaa.of_fresh k (fun _=>False)) (fun _ e=>e.elim)
theorem Qda.slice{w:World}{base:Nat}{v:Value}{T:List Qba}(h:Qda w base v T):∃a c,v = .slice a T.length c:=by
 obtain⟨_,_,g2,_⟩:=h;exact Qea g2
theorem QLj{B b base:Nat}{w w':World}{e:TypeId}{size:Nat}{v:Value}{n:Nat}{xs:List Value}(h:w.ownsRow base e size v n xs)(ht:Qtc B w b)(Hm:63≠e)(k:Qaa (· = b) w w'):w'.ownsRow base e size v n xs:=by
 obtain⟨cs,hH⟩:=ht.holds
 exact Qfi h hH Hm k
theorem QWp{w:World}{base:Nat}{e:TypeId}{size:Nat}{a:Option Addr}{n c:Nat}{xs:List Value}(h:w.ownsRow base e size (.slice a n c) n xs):n≤c∧c≤9223372036854775807:=by
 rcases h.2 with⟨e,rfl⟩|⟨g,cap,cur,e,_,_,h2,h3,_⟩
 ·cases e;omega
 ·cases e;unfold maxLen at h3;omega
theorem Qlp(l:List Int):(⟨(Qvi l).toArray⟩:ByteArray).size=4*l.length:=by
 show(Qvi l).toArray.size=_
 simp only[List.size_toArray]
 induction l with
 | nil=>rfl
 | cons x l ih=>
  show(QXd x++Qvi l).length=_
  rw[List.length_append,ih,show(QXd x).length=4 from rfl,List.length_cons];omega
theorem Qtr{w:World}{base:Nat}{e:TypeId}{v:Value}{l:List Int}(h:w.ownsRow base e 1 v l.length (Q6e l)):Q6r w.heap.size w v l:=by
 obtain⟨a,c,rfl⟩:=Qea h
 have hl:=QWp h
 refine⟨a,c,rfl,hl.1,hl.2,fun h0=>?_⟩
 obtain⟨g,c',e,-,hg⟩:=h.form h0
 simp only[Value.slice.injEq]at e
 obtain⟨rfl,-,rfl⟩:=e
 refine⟨g,0,rfl,hg,fun i hi=>?_⟩
 rw[Nat.zero_add,h.cellAt i (by omega)]
 simp[Q6e,hi]
theorem Q1r(v:Int)(h0:0≤v)(h1:v≤255):((v.toNat.toUInt8).toNat:Int)=v:=by simp[Nat.toUInt8];omega
theorem Qzh(acc:List UInt8)(v:Int)(h0:0≤v)(h1:v≤255):Lib.byteCells acc++[.int .u8 v]=Lib.byteCells (acc++[v.toNat.toUInt8]):=by
 unfold Lib.byteCells;rw[List.map_append,List.map_singleton,Q1r v h0 h1]
def Qqs(B b:Nat)(w:World)(e:Ending)(w':World):Prop:=∃s:ByteArray,e = .returned (.string s)∧s.size≤100∧Qtc B w' b∧Qaa (· = b) w w'
def Qrr:List ByteArray:=[⟨#[97,0]⟩,⟨#[111,107,97,121,0]⟩,⟨#[102,105,114,115,116,0,115,101,99,111,110,100,0]⟩,⟨#[119,105,116,104,32,34,113,117,111,116,101,34,32,97,110,100,32,92,0]⟩,⟨#[116,97,98,9,0]⟩,⟨#[97,98,0,0]⟩]
theorem Qsr:∀s∈Qrr,s.size≤100:=by decide
set_option maxRecDepth 100000 in
theorem QQi(B b:Nat)(w:World)(h:Qtc B w b) :
 Calls Tryz.prog 32 #[.pointer (some ⟨b,0,none⟩)] w (Qqs B b w):=by
 have Hh:=h.lt
 have lF:B≤w.heap.size:=Nat.le_trans h.1 (Nat.le_of_lt Hh)
 go_enter Tryz.func32,Tryz.ntmps32
 go_wp2_with fail
 refine(Qnl B b 7 _ h (by omega) (by omega)).mono ?_
 rintro e w1 ⟨r,rfl,r0,r1,GE,Gg⟩
 have ko:=Gg.size
 by_cases h0:r=0
 ·have h0':(r == 0)=true:=by simp[h0]
  clear h0
  go_wp2_with fail
  go_ret
  exact⟨_,rfl,by decide,GE,Gg⟩
 ·have h0':(r == 0)=false:=by simpa using h0
  have zo:(r=1∨r=2)∨¬(r=1∨r=2):=by omega
  clear h0
  rcases zo with jd|jd
  ·have Ka:=hid (fun wx hx=>QIp B b wx hx)
   rcases jd with rfl|rfl
   all_goals
    go_wp2_with fail
    refine(Qkh B b 1 3 _ GE (by omega) (by omega) (by omega)).mono ?_
    rintro e w2 ⟨q,rfl,q0,q1,Gx,gf⟩
    have Jq:=Gg.trans gf (fun _ _ e=>e)
    clear GE Gg gf
    go_wp2_with fail
    go_loopg [3,4] 3 (fun f x y wr=>∃(l:List Int) (c:Int),y = .int .i64 c∧0≤c∧c.toNat≤f∧(l.length:Int)+c≤3∧Hid (∀z∈l,0≤z∧z≤4294967295)∧wr.ownsRow w.heap.size 3 1 x l.length (Q6e l)∧Qtc B wr b∧Qaa (· = b) w wr)
    case atStart=>exact⟨[],q,rfl,by omega,by omega,by simp;omega,(fun z hz=>by cases hz),World.ownsRow_nil _ _ _ _,Gx,Jq⟩
    case round=>
     clear Gx Jq
     obtain⟨l,c,rfl,Bj,eH,eT,pL,Hj,hT,hK⟩:=hrel
     by_cases hc:0<c
     ·obtain⟨ra,rc,rfl⟩:=Qea Hj
      have vT:=pL
      have gI:=hid Hj
      clear Hj pL
      go_wp2_with fail
      refine(Ka.out _ (by exact hT)).mono ?_
      rintro e w3 ⟨x,rfl,x0,x1,Kj,gu⟩
      have GX:=QLj gI.out hT (by decide) gu
      have Jq:=hK.trans gu (fun _ _ e=>e)
      have ud:=Jq.size
      have Hi:Below w3.heap.size w3 (w3.alloc (.cells #[.int .i64 x] 3)):=(Below.refl _ _).alloc (Nat.le_refl _) _
      have Mz:=Kj.new Hi
      have gv:=hid (Qhb GX Hi)
      obtain⟨i0,hi,H4,Hp,gj⟩:=info_parts QTs
      clear hT hK gu GX gI
      go_wp2_with (at_builtin;refine wpList_append_own _ rfl _ _ 22 rfl w.heap.size 3 i0 (.int .i64 0) 1 8 Tryz.underlying22 hi H4 Hp gj rfl (by decide) _ l.length (Q6e l) rfl (by exact gv.out) ⟨w3.heap.size,0,none⟩ 1 1 [.int .i64 x] rfl rfl ?c1 ?c2 ?c3 ?c4 ?c5 ?_)
      case c1=>exact Q2a _ _ _ _ rfl _ rfl
      case c2=>intro u hu;simp at hu;rcases hu with rfl;rfl
      case c3=>unfold maxLen;omega
      case c4=>omega
      case c5=>simp;omega
      intro v' w5 Hg Hd _
      obtain⟨ra',rc',rfl⟩:=Qea Hg
      have jF:Qtc B w5 b:=Mz.keeps (Qaa.of_grown Hd (S:=fun i=>(Value.slice ra l.length rc).ownBlock=some i) (fun _ e=>e)) (fun i e=>by
       obtain⟨cs,hH⟩:=Mz.holds
       exact⟨by have:=(gv.out.lt i e).1;omega,fun e2=>by subst e2;exact Qva gv.out hH (by decide) e⟩)
      have gR:Qaa (· = b) w w5:=(Jq.trans (Qaa.of_fresh Hi (fun i=>i=b)) (fun _ _ e=>e)).grown Hd (fun i e=>.inl (gv.out.lt i e).1)
      have HF:=hid (show w5.ownsRow w.heap.size 3 1 (.slice ra' (l.length+1) rc') (l++[x]).length (Q6e (l++[x]))from by
       rw[List.length_append,List.length_singleton];unfold Q6e;rw[List.map_append];exact Hg)
      clear Hg Hd gv Mz Jq Hi
      go_wp2_with fail
      go_roundg (c-1).toNat
      case measure=>omega
      case rel=>
       refine⟨l++[x],c-1,rfl,by omega,by omega,by simp;omega,?_,HF.out,jF,gR⟩
       intro z hz
       rcases List.mem_append.1 hz with hz|hz
       ·exact vT.out z hz
       ·simp at hz;subst hz;exact⟨x0,x1⟩
     ·have uY:¬c > 0:=by omega
      have C7:=hid (Qtr Hj)
      have vT:=pL
      clear Hj pL
      go_wp2_with fail
      refine(QGn l _ _ C7.out vT.out (by omega)).mono ?_
      rintro e w3 ⟨rfl,Hi⟩
      have hsz:=Qlp l
      have Kj:=hT.new Hi
      have gu:=hK.trans (Qaa.of_fresh Hi (fun i=>i=b)) (fun _ _ e=>e)
      go_wp2_with fail
      go_ret
      exact⟨_,rfl,by omega,Kj,gu⟩
  ·have e1:(r == 1)=false:=by simp;omega
   have e2:(r == 2)=false:=by simp;omega
   clear jd
   by_cases h3:r=3
   ·have e3:(r == 3)=true:=by simp[h3]
    clear h3
    go_wp2_with fail
    refine(Qnl B b 6 _ (GE.new ((Below.refl _ _).alloc (Nat.le_refl _) _)) (by omega) (by omega)).mono ?_
    rintro e w2 ⟨q,rfl,q0,q1,Gx,gf⟩
    obtain⟨q,rfl⟩:=Int.eq_ofNat_of_zero_le q0
    have tf:=GE.lt
    have hH:=(Holds.new w1 (Qrr.map Value.string).toArray 9).keeps gf (by omega)
    obtain⟨s,ko,GB⟩:=Qnh Qrr q (by have:Qrr.length=6:=rfl;omega)
    have hc:w2.cell? ⟨w1.heap.size,q,none⟩=some (.string s):=(hH.cell q).trans (by simp[ko])
    have rk:Qaa (fun i=>i=b) w w2:=(Gg.alloc _).trans gf (fun _ _ e=>e)
    have hsz:=Qsr s GB
    go_wp2_with fail
    go_ret
    exact⟨s,rfl,hsz,Gx,rk⟩
   ·have e3:(r == 3)=false:=by simp;omega
    by_cases h4:r=4
    ·have e4:(r == 4)=true:=by simp[h4]
     clear h3 h4
     go_wp2_with fail
     go_ret
     exact⟨_,rfl,by decide,GE,Gg⟩
    ·have e4:(r == 4)=false:=by simp;omega
     clear h3 h4
     go_wp2_with fail
     refine(Qnl B b 9 _ GE (by omega) (by omega)).mono ?_
     rintro e w2 ⟨q,rfl,q0,q1,Gx,gf⟩
     have Jq:=Gg.trans gf (fun _ _ e=>e)
     clear GE Gg gf
     go_wp2_with fail
     go_loopg [5,6] 9 (fun f x y wr=>∃(l:List UInt8) (c:Int),y = .int .i64 c∧0≤c∧c.toNat≤f∧(l.length:Int)+c≤9∧wr.ownsRow w.heap.size 5 1 x l.length (Lib.byteCells l)∧Qtc B wr b∧Qaa (· = b) w wr)
     case atStart=>exact⟨[],q,rfl,by omega,by omega,by simp;omega,World.ownsRow_nil _ _ _ _,Gx,Jq⟩
     case round=>
      clear Gx Jq
      obtain⟨l,c,rfl,Bj,eH,eT,Hj,hT,hK⟩:=hrel
      by_cases hc:0<c
      ·obtain⟨ra,rc,rfl⟩:=Qea Hj
       have gI:=hid Hj
       clear Hj
       go_wp2_with fail
       refine(Qnl B b 256 _ (by exact hT) (by omega) (by omega)).mono ?_
       rintro e w3 ⟨x,rfl,x0,x1,Kj,gu⟩
       have Hh:=Kj.lt
       have GO:=gu.size
       have Hu:Below w3.heap.size w3 (w3.alloc (.cells #[.int .i64 0,.int .i64 1,.int .i64 65,.int .i64 255,.int .i64 x] 3)):=(Below.refl _ _).alloc (Nat.le_refl _) _
       have Mz:=Kj.new Hu
       have hH:=Holds.new w3 (([0,1,65,255,x]:List Int).map (Value.int .i64)).toArray 3
       have hc':∀(i:Nat) (h:i<([0,1,65,255,x]:List Int).length),(w3.alloc (.cells #[.int .i64 0,.int .i64 1,.int .i64 65,.int .i64 255,.int .i64 x] 3)).cell? ⟨w3.heap.size,0+i,none⟩=some (.int .i64 ([0,1,65,255,x]:List Int)[i]):=by
        intro i hi
        rw[Nat.zero_add]
        exact(hH.cell i).trans (Qei _ i hi)
       have hp:=hid (QJp B b w3.heap.size 0 5 [0,1,65,255,x] _ Mz (by simp) (by simp) (by omega) hc')
       have GX:=hid (Qhb (QLj gI.out hT (by decide) gu) Hu)
       have Jq:=(hK.trans gu (fun _ _ e=>e)).trans (Qaa.of_fresh Hu (fun i=>i=b)) (fun _ _ e=>e)
       clear Kj hH hc' hT hK gu gI GO
       go_wp2_with fail
       refine(hp.out).mono ?_
       rintro e w4 ⟨r,rfl,hr,jF,gR⟩
       have gd:0≤r∧r≤255:=by simp at hr;omega
       have gv:=hid (QLj GX.out Mz (by decide) gR)
       have lR:=Jq.trans gR (fun _ _ e=>e)
       have hlt5:=jF.lt
       have gG:Below w4.heap.size w4 (w4.alloc (.cells #[.int .u8 r] 5)):=(Below.refl _ _).alloc (Nat.le_refl _) _
       have jG:=jF.new gG
       have Ks:=hid (Qhb gv.out gG)
       obtain⟨i0,hi,H4,Hp,gj⟩:=info_parts QPm
       have iM:=gd.1
       have Hx:=gd.2
       have MH:=lR.size
       clear Mz GX hr Jq gR hp Hu jF gv
       go_wp2_with (at_builtin;refine wpList_append_own _ rfl _ _ 88 rfl w.heap.size 5 i0 (.int .u8 0) 1 1 Tryz.underlying88 hi H4 Hp gj rfl (by decide) _ l.length (Lib.byteCells l) rfl (by exact Ks.out) ⟨w4.heap.size,0,none⟩ 1 1 [.int .u8 r] rfl rfl ?c1 ?c2 ?c3 ?c4 ?c5 ?_)
       case c1=>exact Q2a _ _ _ _ rfl _ rfl
       case c2=>intro u hu;simp at hu;rcases hu with rfl;rfl
       case c3=>unfold maxLen;omega
       case c4=>omega
       case c5=>simp;omega
       intro v' w7 Hg Hd _
       obtain⟨ra',rc',rfl⟩:=Qea Hg
       have lX:Qtc B w7 b:=jG.keeps (Qaa.of_grown Hd (S:=fun i=>(Value.slice ra l.length rc).ownBlock=some i) (fun _ e=>e)) (fun i e=>by
        obtain⟨cs,hH⟩:=jG.holds
        exact⟨by have:=(Ks.out.lt i e).1;omega,fun e2=>by subst e2;exact Qva Ks.out hH (by decide) e⟩)
       have mV:Qaa (· = b) w w7:=(lR.trans (Qaa.of_fresh gG (fun i=>i=b)) (fun _ _ e=>e)).grown Hd (fun i e=>.inl (Ks.out.lt i e).1)
       have HF:=hid (show w7.ownsRow w.heap.size 5 1 (.slice ra' (l.length+1) rc') (l++[r.toNat.toUInt8]).length (Lib.byteCells (l++[r.toNat.toUInt8]))from by
        rw[←Qzh l r iM Hx,List.length_append,List.length_singleton];exact Hg)
       clear Hg Hd Ks jG lR gG
       go_wp2_with fail
       go_roundg (c-1).toNat
       case measure=>omega
       case rel=>
        exact⟨l++[r.toNat.toUInt8],c-1,rfl,by omega,by omega,by simp;omega,HF.out,lX,mV⟩
      ·have uY:¬c > 0:=by omega
       have jI:=Q4e Hj
       obtain⟨ra,rc,rfl⟩:=Qea Hj
       go_wp2_with fail
       go_ret
       exact⟨_,rfl,by show l.toArray.size≤100;simp;omega,hT,hK⟩
def QVs:List ByteArray:=[⟨#[]⟩,⟨#[47,113]⟩,⟨#[47,47]⟩,⟨#[97]⟩,⟨#[47,97,47]⟩]
set_option maxRecDepth 100000 in
theorem Qmk(B b base:Nat)(v:Value)(T:List Qba)(w:World)(h:Qtc B w b)(hT:Qda w base v T)(h1:0<T.length)(h2:T.length≤1000) :
 Calls Tryz.prog 30 #[.pointer (some ⟨b,0,none⟩),.agg #[v]] w fun e w'=>∃s,e = .returned (.string s)∧Qtc B w' b∧Qaa (· = b) w w':=by
 obtain⟨a,cap,rfl⟩:=hT.slice
 have Hh:=h.lt
 have HT:=hid hT;clear hT
 have He:Below w.heap.size w (w.alloc (.cells #[.slice a T.length cap] 27)):=(Below.refl _ _).alloc (Nat.le_refl _) _
 have kJ:=Holds.new w #[.slice a T.length cap] 27
 go_enter Tryz.func30,Tryz.ntmps30
 go_wp2_with fail
 refine(Qnl B b 30 _ (h.new He) (by omega) (by omega)).mono ?_
 rintro e w1 ⟨r,rfl,r0,r1,GE,Gg⟩
 have H5:=kJ.keeps Gg (by omega)
 have J2:=(HT.out.new He).tape (h.new He) Gg
 have hK:Qaa (· = b) w w1:=(Qaa.of_fresh He (fun i=>i=b)).trans Gg (fun _ _ e=>e)
 by_cases hr:r=29
 ·have hr':(r == 29)=true:=by simp[hr]
  clear hr
  go_wp2_with fail
  refine(Qnl B b 5 _ (GE.new ((Below.refl _ _).alloc (Nat.le_refl _) _)) (by omega) (by omega)).mono ?_
  rintro e w2 ⟨q,rfl,q0,q1,Gx,gf⟩
  obtain⟨q,rfl⟩:=Int.eq_ofNat_of_zero_le q0
  have tf:=GE.lt
  have hH:=(Holds.new w1 (QVs.map Value.string).toArray 9).keeps gf (by omega)
  obtain⟨s,ko,_⟩:=Qnh QVs q (by have:QVs.length=5:=rfl;omega)
  have hc:w2.cell? ⟨w1.heap.size,q,none⟩=some (.string s):=(hH.cell q).trans (by simp[ko])
  have rk:Qaa (fun i=>i=b) w w2:=(hK.alloc _).trans gf (fun _ _ e=>e)
  go_wp2_with fail
  go_ret
  exact⟨s,rfl,Gx,rk⟩
 ·have hr':(r == 29)=false:=by simpa using hr
  clear hr
  have x0:=H5.cell 0
  have xl:=H5.lt
  have cJ:w.heap.size≠b:=by omega
  have xz:Qtc B w1.drew b:=GE.keeps ((Qaa.refl (fun _=>False) w1).drew) (fun _ e=>e.elim)
  have zk:=hid (fun(wx:World) (node:Int) (hx:Qpa (fun g=>base≤g) wx (.slice a T.length cap) T)=>Qbi (fun g=>base≤g) (.slice a T.length cap) T node wx hx)
  have kr:=hid J2
  clear J2
  go_wp2_with fail
  go_region_with (first
   | (go_at_call 27;refine(Qnl B b T.length _ (by exact xz) (by omega) (by omega)).mono ?_;rintro e w2 ⟨q,rfl,q0,q1,Gx,gf⟩;have lP:Qaa (· = b) w1 w2:=((Qaa.refl (fun i=>i=b) w1).drew).trans gf (fun _ _ e=>e);have GK:=H5.keeps lP cJ;have k0:=GK.cell 0;have kl:=GK.lt;have mW:=kr.out.tape GE lP)
   | (go_at_call 15;refine(zk.out _ q (by exact mW.in)).mono ?_;rintro e w3 ⟨rfl,Hi⟩;have Kj:=Gx.new Hi;have rk:=(hK.trans lP (fun _ _ e=>e)).trans (Qaa.of_fresh Hi (fun i=>i=b)) (fun _ _ e=>e)))
  all_goals
   go_wp2_with fail
   go_ret
   exact⟨_,rfl,Kj,rk⟩
def QHe(T T':List Qba)(er:Int):Prop:=er=0→∃s nm,(Q3c T s nm).2=0∧T'=(Q3c T s nm).1
def StF(b base:Nat)(v:Value)(T:List Qba)(sv:Value)(er:Int)(T':List Qba)(N:Nat)(j:Nat)(u:Value)(w:World):Prop:=
 if j=0∨j=2 then u = .agg #[v]
 else if j=1∨j=4 then u = .pointer (some ⟨b,0,none⟩)
 else if j=3 then ∃s,u = .string s
 else if j=5 then ∃s,u = .string s∧s∈Quk
 else if j=6∨j=7 then u = .tuple #[.agg #[sv],.int .i64 er]∧Qda w base sv T'∧QHe T T' er
 else if j=8 then u = .agg #[sv]
 else if j=10 then u = .pointer (some ⟨N,0,none⟩)∧N≠b∧∃x,Holds w N #[x] 27
 else if j=11 then Holds w N #[sv] 27
 else u = .int .i64 er
def StS(B b base:Nat)(v:Value)(T:List Qba)(X:Nat)(W w:World):Prop:=Qtc B w b∧Qda w base v T∧Holds w X #[v] 27∧Holds w (X+1) #[.slice none 0 0] 27∧Qaa (· = b) W w
theorem StF.keeps{B b base:Nat}{v:Value}{T:List Qba}{sv:Value}{er:Int}{T':List Qba}{N j:Nat}{u:Value}{w w':World}(h:StF b base v T sv er T' N j u w)(hT:Qtc B w b)(k:Qaa (· = b) w w')(hN:N≠b):StF b base v T sv er T' N j u w':=by
 unfold StF at *
 split at h
 ·rename_i hc;rw[if_pos hc];exact h
 ·rename_i h1;rw[if_neg h1]
  split at h
  ·rename_i hc;rw[if_pos hc];exact h
  ·rename_i h2;rw[if_neg h2]
   split at h
   ·rename_i hc;rw[if_pos hc];exact h
   ·rename_i h3;rw[if_neg h3]
    split at h
    ·rename_i hc;rw[if_pos hc];exact h
    ·rename_i h4;rw[if_neg h4]
     split at h
     ·rename_i hc;rw[if_pos hc];exact⟨h.1,h.2.1.tape hT k,h.2.2⟩
     ·rename_i h5;rw[if_neg h5]
      split at h
      ·rename_i hc;rw[if_pos hc];exact h
      ·rename_i h6;rw[if_neg h6]
       split at h
       ·rename_i hc;rw[if_pos hc]
        obtain⟨e,e2,x,hH⟩:=h
        exact⟨e,e2,x,hH.keeps k e2⟩
       ·rename_i h7;rw[if_neg h7]
        split at h
        ·rename_i hc;rw[if_pos hc];exact Holds.keeps h k hN
        ·rename_i h8;rw[if_neg h8];exact h
theorem StS.keeps{B b base:Nat}{v:Value}{T:List Qba}{X:Nat}{W w w':World}(h:StS B b base v T X W w)(h1:X≠b)(h2:X+1≠b)(k:Qaa (· = b) w w'):Qtc B w' b→StS B b base v T X W w':=fun ht=>
 ⟨ht,h.2.1.tape h.1 k,h.2.2.1.keeps k h1,h.2.2.2.1.keeps k h2,h.2.2.2.2.trans k (fun _ _ e=>e)⟩
theorem Qqr:∀s∈Quk,s.size≤20:=by decide
theorem StF.ghost{b base:Nat}{v:Value}{T:List Qba}{sv:Value}{er:Int}{T':List Qba}{N j:Nat}{u:Value}{w:World}{sv2:Value}{er2:Int}{T2:List Qba}(h:StF b base v T sv er T' N j u w)(hj:j<6∨j=10):StF b base v T sv2 er2 T2 N j u w:=by
 rcases (show j=0∨j=1∨j=2∨j=3∨j=4∨j=5∨j=10 from by omega)with rfl|rfl|rfl|rfl|rfl|rfl|rfl <;> exact h
theorem StF.ghostN{b base:Nat}{v:Value}{T:List Qba}{sv:Value}{er:Int}{T':List Qba}{N j:Nat}{u:Value}{w:World}{N2:Nat}(h:StF b base v T sv er T' N j u w)(hj:j<13)(h1:j≠10)(h2:j≠11):StF b base v T sv er T' N2 j u w:=by
 rcases (show j=0∨j=1∨j=2∨j=3∨j=4∨j=5∨j=6∨j=7∨j=8∨j=9∨j=12 from by omega)with rfl|rfl|rfl|rfl|rfl|rfl|rfl|rfl|rfl|rfl|rfl <;> exact h
theorem StF.store{b base:Nat}{v:Value}{T:List Qba}{sv:Value}{er:Int}{T':List Qba}{N j:Nat}{u x:Value}{w:World}(h:StF b base v T sv er T' N j u w)(hH:Holds w N #[x] 27):StF b base v T sv er T' N j u (w.setCell ⟨N,0,none⟩ sv):=by
 unfold StF at *
 split at h
 ·rename_i hc;rw[if_pos hc];exact h
 ·rename_i h1;rw[if_neg h1]
  split at h
  ·rename_i hc;rw[if_pos hc];exact h
  ·rename_i h2;rw[if_neg h2]
   split at h
   ·rename_i hc;rw[if_pos hc];exact h
   ·rename_i h3;rw[if_neg h3]
    split at h
    ·rename_i hc;rw[if_pos hc];exact h
    ·rename_i h4;rw[if_neg h4]
     split at h
     ·rename_i hc;rw[if_pos hc];exact⟨h.1,h.2.1.set hH (by decide) (by decide) 0 sv,h.2.2⟩
     ·rename_i h5;rw[if_neg h5]
      split at h
      ·rename_i hc;rw[if_pos hc];exact h
      ·rename_i h6;rw[if_neg h6]
       split at h
       ·rename_i hc;rw[if_pos hc]
        exact⟨h.1,h.2.1,_,hH.set 0 sv⟩
       ·rename_i h7;rw[if_neg h7]
        split at h
        ·rename_i hc;rw[if_pos hc];exact hH.set 0 sv
        ·rename_i h8;rw[if_neg h8];exact h
theorem StS.store{B b base:Nat}{v:Value}{T:List Qba}{X N:Nat}{x sv:Value}{W w:World}(h:StS B b base v T X W w)(hH:Holds w N #[x] 27)(h1:X+2≤N)(hX:X=W.heap.size)(hb:b<X)(hB:B≤X):StS B b base v T X W (w.setCell ⟨N,0,none⟩ sv):=by
 have k:Qaa (· = N) w (w.setCell ⟨N,0,none⟩ sv):=(Qaa.refl (· = N) w).setCell (p:=⟨N,0,none⟩) (Or.inr rfl) sv
 refine⟨h.1.keeps k (fun i e=>by subst e;omega),h.2.1.set hH (by decide) (by decide) 0 sv,h.2.2.1.keeps k (by omega),h.2.2.2.1.keeps k (by omega),h.2.2.2.2.trans k (fun i hi e=>by omega)⟩
theorem StS.fin{B b base:Nat}{v:Value}{T:List Qba}{X:Nat}{W w:World}(h:StS B b base v T X W w)(hX:X=W.heap.size)(hb:b<X)(hB:B≤X)(y:Value) :
 Qtc B (w.setCell ⟨X+1,0,none⟩ y) b∧Qaa (· = b) W (w.setCell ⟨X+1,0,none⟩ y)∧Holds (w.setCell ⟨X+1,0,none⟩ y) (X+1) #[y] 27∧∀v' T',Qda w base v' T'→Qda (w.setCell ⟨X+1,0,none⟩ y) base v' T':=by
 have k:Qaa (· = X+1) w (w.setCell ⟨X+1,0,none⟩ y):=(Qaa.refl (· = X+1) w).setCell (p:=⟨X+1,0,none⟩) (Or.inr rfl) y
 exact⟨h.1.keeps k (fun i e=>by subst e;omega),h.2.2.2.2.trans k (fun i hi e=>by omega),h.2.2.2.1.set 0 y,fun v' T' hr=>hr.set h.2.2.2.1 (by decide) (by decide) 0 y⟩
set_option maxRecDepth 100000 in
theorem Qmp(B b base:Nat)(v:Value)(T:List Qba)(w:World)(h:Qtc B w b)(hT:Qda w base v T)(h1:0<T.length)(h2:T.length≤1000)(gi:base≤w.heap.size) :
 Calls Tryz.prog 28 #[.pointer (some ⟨b,0,none⟩),.agg #[v]] w fun e w'=>∃v' T',e = .returned (.agg #[v'])∧Qda w' base v' T'∧(T'=T∨QHe T T' 0)∧Qtc B w' b∧Qaa (· = b) w w':=by
 obtain⟨a,cap,rfl⟩:=hT.slice
 have Hh:=h.lt
 have lF:B≤w.heap.size:=Nat.le_trans h.1 (Nat.le_of_lt Hh)
 have He:Below w.heap.size w ((w.alloc (.cells #[.slice a T.length cap] 27)).alloc (.cells #[.slice none 0 0] 27)):=((Below.refl _ _).alloc (Nat.le_refl _) _).alloc (by simp) _
 have kJ:=(Holds.new w #[.slice a T.length cap] 27).alloc (.cells #[.slice none 0 0] 27)
 have GH:=Holds.newAt (w:=w.alloc (.cells #[.slice a T.length cap] 27)) (B:=w.heap.size+1) (by simp) #[.slice none 0 0] 27
 have lU:=hT.new He
 have My:=h.new He
 have uT:w.heap.size≠b:=by omega
 have eB:w.heap.size+1≠b:=by omega
 have HR:=hid lU
 clear hT lU
 go_enter Tryz.func28,Tryz.ntmps28
 go_wp2_with fail
 have Jr:StS B b base (.slice a T.length cap) T w.heap.size w ((w.alloc (.cells #[.slice a T.length cap] 27)).alloc (.cells #[.slice none 0 0] 27)).drew:=
  ⟨My.keeps ((Qaa.refl (fun _=>False) _).drew) (fun _ e=>e.elim),HR.out,kJ,GH,(Qaa.of_fresh He (fun i=>i=b)).drew⟩
 generalize (w.alloc (.cells #[.slice a T.length cap] 27)).alloc (.cells #[.slice none 0 0] 27)=W0 at *
 refine wp_region_any (by kernel_rfl) ?_
 refine QVa (fun l c wx=>∃sv er T' N,Qde _ _ (StF b base (.slice a T.length cap) T sv er T' N) (StS B b base (.slice a T.length cap) T w.heap.size w) l c wx∧w.heap.size+2≤N) (by kernel_rfl) ?hend ?Hk _ _ _ _ (by rfl) (by decide) ⟨.slice none 0 0,0,[],w.heap.size+2,Qde.start Jr,by omega⟩
 case Hk=>
  intro l c wx hI i o ho hl Ha K' hK'
  obtain⟨sv,er,T',N,hI,kP⟩:=hI
  have dU:N≠b:=by omega
  have J9:i<13:=(Array.getElem?_eq_some_iff.1 ho).1
  have uN:=hI.2.1
  have KL:=hid uN
  have hX:=uN.2.2.1.cell 0
  have hXl:=uN.2.2.1.lt
  have GV:i=0∨i=1∨i=2∨i=3∨i=4∨i=5∨i=6∨i=7∨i=8∨i=9∨i=10∨i=11∨i=12:=by omega
  clear uN
  rcases GV with rfl|rfl|rfl|rfl|rfl|rfl|rfl|rfl|rfl|rfl|rfl|rfl|rfl
  all_goals cases ho
  all_goals have s3:=hI.slot 3 (by kernel_rfl)
  all_goals have s0:=hI.slot 0 (by kernel_rfl)
  all_goals simp only[Array.getD_eq_getD_getElem?]at s3 s0
  ·go_simp
   exact hK' _ _ ⟨sv,er,T',N,hI.step (by kernel_rfl) 0 8 rfl (Nat.le_of_ble_eq_true (by kernel_rfl)) _ _ rfl Ha KL.out (fun _ _ h=>h) rfl,kP⟩
  ·go_simp
   exact hK' _ _ ⟨sv,er,T',N,hI.step (by kernel_rfl) 1 9 rfl (Nat.le_of_ble_eq_true (by kernel_rfl)) _ _ rfl Ha KL.out (fun _ _ h=>h) rfl,kP⟩
  ·go_simp
   exact hK' _ _ ⟨sv,er,T',N,hI.step (by kernel_rfl) 2 10 rfl (Nat.le_of_ble_eq_true (by kernel_rfl)) _ _ rfl Ha KL.out (fun _ _ h=>h) rfl,kP⟩
  ·have e1:c.tmps.getD 9 undef = .pointer (some ⟨b,0,none⟩):=hI.fact 1 9 rfl (Qka Ha 1 (by kernel_rfl))
   simp only[Array.getD_eq_getD_getElem?]at e1
   have e2:c.tmps.getD 10 undef = .agg #[.slice a T.length cap]:=hI.fact 2 10 rfl (Qka Ha 2 (by kernel_rfl))
   simp only[Array.getD_eq_getD_getElem?]at e2
   go_simp
   refine(Qmk B b base _ T wx KL.out.1 KL.out.2.1 h1 h2).mono ?_
   rintro e w2 ⟨s,rfl,Kw,k2⟩
   go_simp
   have gh:=StS.keeps KL.out uT eB k2 Kw
   exact hK' _ _ ⟨sv,er,T',N,hI.step (by kernel_rfl) 3 11 rfl (Nat.le_of_ble_eq_true (by kernel_rfl)) _ _ rfl Ha gh (fun _ _ h=>StF.keeps h KL.out.1 k2 dU) ⟨s,rfl⟩,kP⟩
  ·go_simp
   exact hK' _ _ ⟨sv,er,T',N,hI.step (by kernel_rfl) 4 12 rfl (Nat.le_of_ble_eq_true (by kernel_rfl)) _ _ rfl Ha KL.out (fun _ _ h=>h) rfl,kP⟩
  ·have e4:c.tmps.getD 12 undef = .pointer (some ⟨b,0,none⟩):=hI.fact 4 12 rfl (Qka Ha 4 (by kernel_rfl))
   simp only[Array.getD_eq_getD_getElem?]at e4
   go_simp
   refine(QZl B b wx KL.out.1).mono ?_
   rintro e w2 ⟨s,rfl,hs,Kw,k2⟩
   go_simp
   have gh:=StS.keeps KL.out uT eB k2 Kw
   exact hK' _ _ ⟨sv,er,T',N,hI.step (by kernel_rfl) 5 13 rfl (Nat.le_of_ble_eq_true (by kernel_rfl)) _ _ rfl Ha gh (fun _ _ h=>StF.keeps h KL.out.1 k2 dU) ⟨s,rfl,hs⟩,kP⟩
  ·have e0:c.tmps.getD 8 undef = .agg #[.slice a T.length cap]:=hI.fact 0 8 rfl (Qka Ha 0 (by kernel_rfl))
   simp only[Array.getD_eq_getD_getElem?]at e0
   obtain⟨s,e3⟩:∃s,c.tmps.getD 11 undef = .string s:=hI.fact 3 11 rfl (Qka Ha 3 (by kernel_rfl))
   simp only[Array.getD_eq_getD_getElem?]at e3
   obtain⟨nm,e5,Hv⟩:∃s,c.tmps.getD 13 undef = .string s∧s∈Quk:=hI.fact 5 13 rfl (Qka Ha 5 (by kernel_rfl))
   simp only[Array.getD_eq_getD_getElem?]at e5
   have bX:nm.size≤9223372036854775807:=by have:=Qqr nm Hv;omega
   go_simp
   refine(QKr _ _ T s nm wx KL.out.2.1.in bX).mono ?_
   rintro e w2 ⟨v2,rfl,gd,Hc⟩
   go_simp
   have k2:=Qaa.of_fresh Hc (fun i=>i=b)
   have gh:=StS.keeps KL.out uT eB k2 (KL.out.1.new Hc)
   have MG:=gd.base (Nat.le_trans gi KL.out.2.2.2.2.size)
   have kE:QHe T (Q3c T s nm).1 (Q3c T s nm).2:=fun e=>⟨s,nm,e,rfl⟩
   have u7:=hI.2.2.1.2.unlisted hl (j:=7) (by kernel_rfl)
   have u8:=hI.2.2.1.2.unlisted u7 (j:=8) (by kernel_rfl)
   have u9:=hI.2.2.1.2.unlisted u7 (j:=9) (by kernel_rfl)
   have u11:=hI.2.2.1.2.unlisted u8 (j:=11) (by kernel_rfl)
   have u12:=hI.2.2.1.2.unlisted u9 (j:=12) (by kernel_rfl)
   have hJ:=hI.other (F':=StF b base (.slice a T.length cap) T v2 (Q3c T s nm).2 (Q3c T s nm).1 N) (fun j hj u hF=>hF.ghost (by
    have q1:j<13:=hI.lt hj
    have q2:=Qbb hj hl
    have q3:=Qbb hj u7
    have q4:=Qbb hj u8
    have q5:=Qbb hj u9
    have q6:=Qbb hj u11
    have q7:=Qbb hj u12
    omega))
   exact hK' _ _ ⟨v2,(Q3c T s nm).2,(Q3c T s nm).1,N,hJ.step (by kernel_rfl) 6 14 rfl (Nat.le_of_ble_eq_true (by kernel_rfl)) _ _ rfl Ha gh (fun _ _ h=>StF.keeps h KL.out.1 k2 dU) ⟨rfl,MG,kE⟩,kP⟩
  ·obtain⟨e6,ai,iT⟩:c.tmps.getD 14 undef = .tuple #[.agg #[sv],.int .i64 er]∧Qda wx base sv T'∧QHe T T' er:=hI.fact 6 14 rfl (Qka Ha 6 (by kernel_rfl))
   simp only[Array.getD_eq_getD_getElem?]at e6
   go_simp
   exact hK' _ _ ⟨sv,er,T',N,hI.step (by kernel_rfl) 7 7 rfl (Nat.le_of_ble_eq_true (by kernel_rfl)) _ _ rfl Ha KL.out (fun _ _ h=>h) ⟨rfl,ai,iT⟩,kP⟩
  ·obtain⟨e7,pO,MH⟩:c.tmps.getD 7 undef = .tuple #[.agg #[sv],.int .i64 er]∧Qda wx base sv T'∧QHe T T' er:=hI.fact 7 7 rfl (Qka Ha 7 (by kernel_rfl))
   simp only[Array.getD_eq_getD_getElem?]at e7
   go_simp
   exact hK' _ _ ⟨sv,er,T',N,hI.step (by kernel_rfl) 8 15 rfl (Nat.le_of_ble_eq_true (by kernel_rfl)) _ _ rfl Ha KL.out (fun _ _ h=>h) rfl,kP⟩
  ·obtain⟨e7,pO,MH⟩:c.tmps.getD 7 undef = .tuple #[.agg #[sv],.int .i64 er]∧Qda wx base sv T'∧QHe T T' er:=hI.fact 7 7 rfl (Qka Ha 7 (by kernel_rfl))
   simp only[Array.getD_eq_getD_getElem?]at e7
   go_simp
   exact hK' _ _ ⟨sv,er,T',N,hI.step (by kernel_rfl) 9 16 rfl (Nat.le_of_ble_eq_true (by kernel_rfl)) _ _ rfl Ha KL.out (fun _ _ h=>h) rfl,kP⟩
  ·go_simp
   have Hc:Below wx.heap.size wx (wx.alloc (.cells #[.slice none 0 0] 27)):=(Below.refl _ _).alloc (Nat.le_refl _) _
   have k2:=Qaa.of_fresh Hc (fun i=>i=b)
   have gh:=StS.keeps KL.out uT eB k2 (KL.out.1.new Hc)
   have u11:=hI.2.2.1.2.unlisted hl (j:=11) (by kernel_rfl)
   have aA:wx.heap.size≠b:=by have:=KL.out.1.lt;omega
   have o6:w.heap.size+2≤wx.heap.size:=KL.out.2.2.2.1.lt
   have hJ:=hI.other (F':=StF b base (.slice a T.length cap) T sv er T' wx.heap.size) (fun j hj u hF=>hF.ghostN (hI.lt hj) (Qbb hj hl) (Qbb hj u11))
   exact hK' _ _ ⟨sv,er,T',wx.heap.size,hJ.step (by kernel_rfl) 10 5 rfl (Nat.le_of_ble_eq_true (by kernel_rfl)) _ _ rfl Ha gh (fun _ _ h=>StF.keeps h KL.out.1 k2 aA) ⟨rfl,aA,_,Holds.new _ _ _⟩,o6⟩
  ·obtain⟨e10,_,x,mO⟩:c.tmps.getD 5 undef = .pointer (some ⟨N,0,none⟩)∧N≠b∧∃x,Holds wx N #[x] 27:=hI.fact 10 5 rfl (Qka Ha 10 (by kernel_rfl))
   simp only[Array.getD_eq_getD_getElem?]at e10
   have e8:c.tmps.getD 15 undef = .agg #[sv]:=hI.fact 8 15 rfl (Qka Ha 8 (by kernel_rfl))
   simp only[Array.getD_eq_getD_getElem?]at e8
   obtain⟨e7,pO,MH⟩:c.tmps.getD 7 undef = .tuple #[.agg #[sv],.int .i64 er]∧Qda wx base sv T'∧QHe T T' er:=hI.fact 7 7 rfl (Qka Ha 7 (by kernel_rfl))
   obtain⟨a2,c2,rfl⟩:=pO.slice
   have n0:wx.cell? ⟨N,0,none⟩=some x:=mO.cell 0
   have n1:wx.frozen? ⟨N,0,none⟩=false:=mO.free 0
   go_simp
   exact hK' _ _ ⟨.slice a2 T'.length c2,er,T',N,hI.stepN 11 rfl _ rfl Ha (KL.out.store mO kP rfl Hh lF) (fun _ _ h=>h.store mO) (mO.set 0 _),kP⟩
  ·have e9:c.tmps.getD 16 undef = .int .i64 er:=hI.fact 9 16 rfl (Qka Ha 9 (by kernel_rfl))
   simp only[Array.getD_eq_getD_getElem?]at e9
   go_simp
   exact hK' _ _ ⟨sv,er,T',N,hI.step (by kernel_rfl) 12 6 rfl (Nat.le_of_ble_eq_true (by kernel_rfl)) _ _ rfl Ha KL.out (fun _ _ h=>h) rfl,kP⟩
 case hend=>
  rintro l c wx ⟨sv,er,T',N,hI,dU⟩ hl
  obtain⟨e10,_,x,mO⟩:c.tmps.getD 5 undef = .pointer (some ⟨N,0,none⟩)∧N≠b∧∃x,Holds wx N #[x] 27:=hI.fact 10 5 rfl (hl 10 (by decide))
  have hH:Holds wx N #[sv] 27:=hI.2.2.2 11 (by decide) (hl 11 (by decide))
  obtain⟨e7,pO,MH⟩:c.tmps.getD 7 undef = .tuple #[.agg #[sv],.int .i64 er]∧Qda wx base sv T'∧QHe T T' er:=hI.fact 7 7 rfl (hl 7 (by decide))
  have e12:c.tmps.getD 6 undef = .int .i64 er:=hI.fact 12 6 rfl (hl 12 (by decide))
  have s0:=hI.slot 0 (by kernel_rfl)
  have s1:=hI.slot 1 (by kernel_rfl)
  have s3:=hI.slot 3 (by kernel_rfl)
  have s4:=hI.slot 4 (by kernel_rfl)
  have hsz:c.tmps.size=21:=hI.1.1
  have xX:=hI.1.2.1
  have hS:=hI.2.1
  obtain⟨a2,c2,rfl⟩:=pO.slice
  have hX:=hS.2.2.1.cell 0
  have hZ:=hS.2.2.2.1.cell 0
  have mc:=hH.cell 0
  obtain⟨ct,cd⟩:=c
  have ji:ct=#[ct.getD 0 undef,ct.getD 1 undef,ct.getD 2 undef,ct.getD 3 undef,ct.getD 4 undef,ct.getD 5 undef,ct.getD 6 undef,ct.getD 7 undef,ct.getD 8 undef,ct.getD 9 undef,ct.getD 10 undef,ct.getD 11 undef,ct.getD 12 undef,ct.getD 13 undef,ct.getD 14 undef,ct.getD 15 undef,ct.getD 16 undef,ct.getD 17 undef,ct.getD 18 undef,ct.getD 19 undef,ct.getD 20 undef]:=QFn ct 21 hsz
  simp only at s0 s1 s3 s4 e10 e12 xX
  rw[s0,s1,s3,s4,e10,e12]at ji
  clear e7 hsz s0 s1 s3 s4 e10 e12 hI
  generalize ct.getD 2 undef=u2 at ji
  generalize ct.getD 7 undef=u7 at ji
  generalize ct.getD 8 undef=u8 at ji
  generalize ct.getD 9 undef=u9 at ji
  generalize ct.getD 10 undef=u10 at ji
  generalize ct.getD 11 undef=u11 at ji
  generalize ct.getD 12 undef=u12 at ji
  generalize ct.getD 13 undef=u13 at ji
  generalize ct.getD 14 undef=u14 at ji
  generalize ct.getD 15 undef=u15 at ji
  generalize ct.getD 16 undef=u16 at ji
  generalize ct.getD 17 undef=u17 at ji
  generalize ct.getD 18 undef=u18 at ji
  generalize ct.getD 19 undef=u19 at ji
  generalize ct.getD 20 undef=u20 at ji
  subst ji
  have hZf:=hS.2.2.2.1.free 0
  by_cases he:er=0
  ·have Hm:(er != 0)=false:=by simpa using he
   subst he
   obtain⟨f1,f2,f3,f4⟩:=hS.fin rfl Hh lF (.slice a2 T'.length c2)
   go_simp
   go_wp2_with fail
   have q0:=f3.cell 0
   exact bodyPost_ret (v:=.agg #[.slice a2 T'.length c2]) (by simp[results,Tryz.results28,go_sem,q0]) rfl ⟨_,_,rfl,f4 _ _ pO,Or.inr MH,f1,f2⟩
  ·have Hm:(er != 0)=true:=by simpa using he
   obtain⟨f1,f2,f3,f4⟩:=hS.fin rfl Hh lF (.slice a T.length cap)
   have Dk:=hS.2.1
   go_simp
   go_wp2_with fail
   have q0:=f3.cell 0
   exact bodyPost_ret (v:=.agg #[.slice a T.length cap]) (by simp[results,Tryz.results28,go_sem,q0]) rfl ⟨_,_,rfl,f4 _ _ Dk,Or.inl rfl,f1,f2⟩
noncomputable def Qnf(n:Nat):Array Oper:=(QXa (Tryz.f8.body.getD .skip) n).getD #[]
theorem QNu:Qjc .any (Qnf 9)=true:=by kernel_rfl
theorem Q1f:Qbc (Qnf 9)=true:=by kernel_rfl
theorem QPs:(Qnf 9).size=15:=by kernel_rfl
theorem Qvk:∀s∈Q2d,s.size≤100:=by decide
def QTf(T T':List Qba)(er:Int):Prop:=er=0→∃s nm va:ByteArray,nm.size≤100∧va.size≤100∧(QSd T s nm va).2=0∧T'=(QSd T s nm va).1
def GsS(B b base Z:Nat)(v:Value)(T:List Qba)(W w:World):Prop:=Qtc B w b∧Qda w base v T∧Holds w Z #[v] 27∧Qaa (· = b) W w
def GsF(b base:Nat)(v:Value)(T:List Qba)(sv:Value)(er:Int)(T':List Qba)(N:Nat)(j:Nat):Value→World→Prop:=match j with
 | 0=>fun u _=>u = .agg #[v]
 | 1=>fun u _=>u = .pointer (some ⟨b,0,none⟩)
 | 2=>fun u _=>u = .agg #[v]
 | 3=>fun u _=>∃s,u = .string s
 | 4=>fun u _=>u = .pointer (some ⟨b,0,none⟩)
 | 5=>fun u _=>∃s:ByteArray,u = .string s∧s.size≤100
 | 6=>fun u _=>u = .pointer (some ⟨b,0,none⟩)
 | 7=>fun u _=>∃s:ByteArray,u = .string s∧s.size≤100
 | 8=>fun u w=>u = .tuple #[.agg #[sv],.int .i64 er]∧Qda w base sv T'∧QTf T T' er
 | 9=>fun u w=>u = .tuple #[.agg #[sv],.int .i64 er]∧Qda w base sv T'∧QTf T T' er
 | 10=>fun u _=>u = .agg #[sv]
 | 11=>fun u _=>u = .int .i64 er
 | 12=>fun u w=>u = .pointer (some ⟨N,0,none⟩)∧∃x,Holds w N #[x] 27
 | 13=>fun _ w=>Holds w N #[sv] 27
 | 14=>fun u _=>u = .int .i64 er
 | _=>fun _ _=>True
section
variable{B b base Z:Nat}{v sv:Value}{T T':List Qba}{er:Int}{N:Nat}{W w w':World}
theorem GsS.call(h:GsS B b base Z v T W w)(hZb:Z≠b)(k:Qaa (· = b) w w')(ht:Qtc B w' b):GsS B b base Z v T W w':=
 ⟨ht,h.2.1.tape h.1 k,h.2.2.1.keeps k hZb,h.2.2.2.trans k (fun _ _ e=>e)⟩
theorem GsS.store{x:Value}(h:GsS B b base Z v T W w)(hH:Holds w N #[x] 27)(h1:W.heap.size≤N)(hZ:Z<W.heap.size)(hb:b<W.heap.size)(hB:B≤W.heap.size):GsS B b base Z v T W (w.setCell ⟨N,0,none⟩ sv):=by
 have k:Qaa (· = N) w (w.setCell ⟨N,0,none⟩ sv):=(Qaa.refl (· = N) w).setCell (p:=⟨N,0,none⟩) (Or.inr rfl) sv
 exact⟨h.1.keeps k (fun i e=>by subst e;omega),h.2.1.set hH (by decide) (by decide) 0 sv,h.2.2.1.keeps k (by omega),h.2.2.2.trans k (fun i hi e=>by omega)⟩
theorem GsF.keeps{j:Nat}{u:Value}(h:GsF b base v T sv er T' N j u w)(hT:Qtc B w b)(k:Qaa (· = b) w w')(hN:N≠b):GsF b base v T sv er T' N j u w':=by
 unfold GsF at *
 split at h
 all_goals first
  | exact h
  | exact⟨h.1,h.2.1.tape hT k,h.2.2⟩
  | (obtain⟨e,x,hH⟩:=h;exact⟨e,x,hH.keeps k hN⟩)
  | exact Holds.keeps h k hN
theorem GsF.store{j:Nat}{u x:Value}(h:GsF b base v T sv er T' N j u w)(hH:Holds w N #[x] 27):GsF b base v T sv er T' N j u (w.setCell ⟨N,0,none⟩ sv):=by
 unfold GsF at *
 split at h
 all_goals first
  | exact h
  | exact⟨h.1,h.2.1.set hH (by decide) (by decide) 0 sv,h.2.2⟩
  | exact⟨h.1,_,hH.set 0 sv⟩
  | exact hH.set 0 sv
theorem GsF.ghost{j:Nat}{u:Value}{sv2:Value}{er2:Int}{T2:List Qba}(h:GsF b base v T sv er T' N j u w)(h8:j≠8)(h9:j≠9)(Gk:j≠10)(oQ:j≠11)(jA:j≠13)(uB:j≠14):GsF b base v T sv2 er2 T2 N j u w:=by
 unfold GsF at *
 split at h
 all_goals first
  | exact h
  | exact absurd rfl h8
  | exact absurd rfl h9
  | exact absurd rfl Gk
  | exact absurd rfl oQ
  | exact absurd rfl jA
  | exact absurd rfl uB
theorem GsF.ghostN{j:Nat}{u:Value}{N2:Nat}(h:GsF b base v T sv er T' N j u w)(jd:j≠12)(jA:j≠13):GsF b base v T sv er T' N2 j u w:=by
 unfold GsF at *
 split at h
 all_goals first
  | exact h
  | exact absurd rfl jd
  | exact absurd rfl jA
end
set_option maxRecDepth 100000 in
theorem QMl{Q:Exit→Act→World→Prop}(B b base Z:Nat)(v:Value)(T:List Qba)(W w:World)(A:Act)(hsz:A.tmps.size=49)(hZW:Z<W.heap.size)(uW:b<W.heap.size)(hBW:B≤W.heap.size)(gi:base≤W.heap.size)(hZb:Z≠b)(h1:0<T.length)(h2:T.length≤1000)
 (a0:A.tmps.getD 0 undef = .pointer (some ⟨b,0,none⟩)) (a5:A.tmps.getD 5 undef = .pointer (some ⟨Z,0,none⟩)) (hS:GsS B b base Z v T W w)
 (hQ:∀c w' sv er T' N,Qrb (Qnf 9) A c→GsS B b base Z v T W w'→c.tmps.getD 8 undef = .pointer (some ⟨N,0,none⟩)→Holds w' N #[sv] 27→c.tmps.getD 9 undef = .int .i64 er→Qda w' base sv T'→QTf T T' er→W.heap.size≤N→Q .normal c w') :
 wpAny Tryz.prog .any (Qnf 9) Q (Qnf 9).size (Array.replicate (Qnf 9).size false) A w:=by
 refine QVa (fun l c wx=>∃sv er T' N,Qde (Qnf 9) A (GsF b base v T sv er T' N) (GsS B b base Z v T W) l c wx∧W.heap.size≤N) QNu ?hend ?Hk _ _ _ _ (by simp) (by simp) ⟨.slice none 0 0,0,[],W.heap.size,Qde.start hS,Nat.le_refl _⟩
 case hend=>
  rintro l c wx ⟨sv,er,T',N,hI,kP⟩ hl
  have hh:∀k,k<15→l.getD k false=true:=fun k hk=>hl k (by rw[QPs];exact hk)
  obtain⟨e9,tW,nV⟩:c.tmps.getD 33 undef = .tuple #[.agg #[sv],.int .i64 er]∧Qda wx base sv T'∧QTf T T' er:=hI.fact 9 33 rfl (hh 9 (by decide))
  have e12:c.tmps.getD 8 undef = .pointer (some ⟨N,0,none⟩)∧∃x,Holds wx N #[x] 27:=hI.fact 12 8 rfl (hh 12 (by decide))
  have jA:Holds wx N #[sv] 27:=hI.2.2.2 13 (by rw[QPs];decide) (hh 13 (by decide))
  have e14:c.tmps.getD 9 undef = .int .i64 er:=hI.fact 14 9 rfl (hh 14 (by decide))
  exact hQ c wx sv er T' N hI.1 hI.2.1 e12.1 jA e14 tW nV kP
 intro l c wx hI i' op ho hl Ha K' hK'
 obtain⟨sv,er,T',N,hI,kP⟩:=hI
 have dU:N≠b:=by omega
 have J9:i'<15:=by rw[←QPs];exact(Array.getElem?_eq_some_iff.1 ho).1
 simp only[Qnf,QXa,Tryz.f8,Option.getD_some,reduceIte,Nat.reduceEqDiff]at ho
 have HS:=hid hI.2.1
 have s0:=(hI.slot 0 (by kernel_rfl)).trans a0
 have s5:=(hI.slot 5 (by kernel_rfl)).trans a5
 simp only[Array.getD_eq_getD_getElem?]at s0 s5
 have GV:i'=0∨i'=1∨i'=2∨i'=3∨i'=4∨i'=5∨i'=6∨i'=7∨i'=8∨i'=9∨i'=10∨i'=11∨i'=12∨i'=13∨i'=14:=by omega
 rcases GV with rfl|rfl|rfl|rfl|rfl|rfl|rfl|rfl|rfl|rfl|rfl|rfl|rfl|rfl|rfl
 all_goals cases ho
 ·have hX:=HS.out.2.2.1.cell 0
  go_simp
  exact hK' _ _ ⟨sv,er,T',N,hI.step Q1f 0 34 rfl (by rw[hsz];decide) _ _ rfl Ha HS.out (fun _ _ h=>h) rfl,kP⟩
 ·go_simp
  exact hK' _ _ ⟨sv,er,T',N,hI.step Q1f 1 35 rfl (by rw[hsz];decide) _ _ rfl Ha HS.out (fun _ _ h=>h) rfl,kP⟩
 ·have hX:=HS.out.2.2.1.cell 0
  go_simp
  exact hK' _ _ ⟨sv,er,T',N,hI.step Q1f 2 36 rfl (by rw[hsz];decide) _ _ rfl Ha HS.out (fun _ _ h=>h) rfl,kP⟩
 ·have e1:c.tmps.getD 35 undef = .pointer (some ⟨b,0,none⟩):=hI.fact 1 35 rfl (Qka Ha 1 (by kernel_rfl))
  simp only[Array.getD_eq_getD_getElem?]at e1
  have e2:c.tmps.getD 36 undef = .agg #[v]:=hI.fact 2 36 rfl (Qka Ha 2 (by kernel_rfl))
  simp only[Array.getD_eq_getD_getElem?]at e2
  go_simp
  refine(Qmk B b base _ T wx HS.out.1 HS.out.2.1 h1 h2).mono ?_
  rintro e w2 ⟨s,rfl,Kw,k2⟩
  go_simp
  have gh:=HS.out.call hZb k2 Kw
  exact hK' _ _ ⟨sv,er,T',N,hI.step Q1f 3 37 rfl (by rw[hsz];decide) _ _ rfl Ha gh (fun _ _ h=>GsF.keeps h HS.out.1 k2 dU) ⟨s,rfl⟩,kP⟩
 ·go_simp
  exact hK' _ _ ⟨sv,er,T',N,hI.step Q1f 4 38 rfl (by rw[hsz];decide) _ _ rfl Ha HS.out (fun _ _ h=>h) rfl,kP⟩
 ·have e4:c.tmps.getD 38 undef = .pointer (some ⟨b,0,none⟩):=hI.fact 4 38 rfl (Qka Ha 4 (by kernel_rfl))
  simp only[Array.getD_eq_getD_getElem?]at e4
  go_simp
  refine(QIf B b wx HS.out.1).mono ?_
  rintro e w2 ⟨s,rfl,hs,Kw,k2⟩
  go_simp
  have gh:=HS.out.call hZb k2 Kw
  exact hK' _ _ ⟨sv,er,T',N,hI.step Q1f 5 39 rfl (by rw[hsz];decide) _ _ rfl Ha gh (fun _ _ h=>GsF.keeps h HS.out.1 k2 dU) ⟨s,rfl,Qvk s hs⟩,kP⟩
 ·go_simp
  exact hK' _ _ ⟨sv,er,T',N,hI.step Q1f 6 40 rfl (by rw[hsz];decide) _ _ rfl Ha HS.out (fun _ _ h=>h) rfl,kP⟩
 ·have e6:c.tmps.getD 40 undef = .pointer (some ⟨b,0,none⟩):=hI.fact 6 40 rfl (Qka Ha 6 (by kernel_rfl))
  simp only[Array.getD_eq_getD_getElem?]at e6
  go_simp
  refine(QQi B b wx HS.out.1).mono ?_
  rintro e w2 ⟨s,rfl,hs,Kw,k2⟩
  go_simp
  have gh:=HS.out.call hZb k2 Kw
  exact hK' _ _ ⟨sv,er,T',N,hI.step Q1f 7 41 rfl (by rw[hsz];decide) _ _ rfl Ha gh (fun _ _ h=>GsF.keeps h HS.out.1 k2 dU) ⟨s,rfl,hs⟩,kP⟩
 ·have e0:c.tmps.getD 34 undef = .agg #[v]:=hI.fact 0 34 rfl (Qka Ha 0 (by kernel_rfl))
  simp only[Array.getD_eq_getD_getElem?]at e0
  obtain⟨s,e3⟩:∃s,c.tmps.getD 37 undef = .string s:=hI.fact 3 37 rfl (Qka Ha 3 (by kernel_rfl))
  simp only[Array.getD_eq_getD_getElem?]at e3
  obtain⟨nm,e5,Hv⟩:∃s:ByteArray,c.tmps.getD 39 undef = .string s∧s.size≤100:=hI.fact 5 39 rfl (Qka Ha 5 (by kernel_rfl))
  simp only[Array.getD_eq_getD_getElem?]at e5
  obtain⟨vl,e7,JI⟩:∃s:ByteArray,c.tmps.getD 41 undef = .string s∧s.size≤100:=hI.fact 7 41 rfl (Qka Ha 7 (by kernel_rfl))
  simp only[Array.getD_eq_getD_getElem?]at e7
  go_simp
  refine(QMr _ _ T s nm vl wx HS.out.2.1.in (by omega) (by omega)).mono ?_
  rintro e w2 ⟨v2,rfl,gd,Hc⟩
  go_simp
  have k2:=Qaa.of_fresh Hc (fun i=>i=b)
  have gh:=HS.out.call hZb k2 (HS.out.1.new Hc)
  have MG:=gd.base (Nat.le_trans gi HS.out.2.2.2.size)
  have kE:QTf T (QSd T s nm vl).1 (QSd T s nm vl).2:=fun e=>⟨s,nm,vl,Hv,JI,e,rfl⟩
  have u9:=hI.2.2.1.2.unlisted hl (j:=9) (by kernel_rfl)
  have u10:=hI.2.2.1.2.unlisted u9 (j:=10) (by kernel_rfl)
  have u11:=hI.2.2.1.2.unlisted u9 (j:=11) (by kernel_rfl)
  have u13:=hI.2.2.1.2.unlisted u10 (j:=13) (by kernel_rfl)
  have u14:=hI.2.2.1.2.unlisted u11 (j:=14) (by kernel_rfl)
  have hJ:=hI.other (F':=GsF b base v T v2 (QSd T s nm vl).2 (QSd T s nm vl).1 N) (fun j hj u hF=>hF.ghost (Qbb hj hl) (Qbb hj u9) (Qbb hj u10) (Qbb hj u11) (Qbb hj u13) (Qbb hj u14))
  exact hK' _ _ ⟨v2,(QSd T s nm vl).2,(QSd T s nm vl).1,N,hJ.step Q1f 8 42 rfl (by rw[hsz];decide) _ _ rfl Ha gh (fun _ _ h=>GsF.keeps h HS.out.1 k2 dU) ⟨rfl,MG,kE⟩,kP⟩
 ·obtain⟨e8,Dj,pQ⟩:c.tmps.getD 42 undef = .tuple #[.agg #[sv],.int .i64 er]∧Qda wx base sv T'∧QTf T T' er:=hI.fact 8 42 rfl (Qka Ha 8 (by kernel_rfl))
  simp only[Array.getD_eq_getD_getElem?]at e8
  go_simp
  exact hK' _ _ ⟨sv,er,T',N,hI.step Q1f 9 33 rfl (by rw[hsz];decide) _ _ rfl Ha HS.out (fun _ _ h=>h) ⟨rfl,Dj,pQ⟩,kP⟩
 ·obtain⟨e9,tW,nV⟩:c.tmps.getD 33 undef = .tuple #[.agg #[sv],.int .i64 er]∧Qda wx base sv T'∧QTf T T' er:=hI.fact 9 33 rfl (Qka Ha 9 (by kernel_rfl))
  simp only[Array.getD_eq_getD_getElem?]at e9
  go_simp
  exact hK' _ _ ⟨sv,er,T',N,hI.step Q1f 10 43 rfl (by rw[hsz];decide) _ _ rfl Ha HS.out (fun _ _ h=>h) rfl,kP⟩
 ·obtain⟨e9,tW,nV⟩:c.tmps.getD 33 undef = .tuple #[.agg #[sv],.int .i64 er]∧Qda wx base sv T'∧QTf T T' er:=hI.fact 9 33 rfl (Qka Ha 9 (by kernel_rfl))
  simp only[Array.getD_eq_getD_getElem?]at e9
  go_simp
  exact hK' _ _ ⟨sv,er,T',N,hI.step Q1f 11 44 rfl (by rw[hsz];decide) _ _ rfl Ha HS.out (fun _ _ h=>h) rfl,kP⟩
 ·go_simp
  have Hc:Below wx.heap.size wx (wx.alloc (.cells #[.slice none 0 0] 27)):=(Below.refl _ _).alloc (Nat.le_refl _) _
  have k2:=Qaa.of_fresh Hc (fun i=>i=b)
  have gh:=HS.out.call hZb k2 (HS.out.1.new Hc)
  have u13:=hI.2.2.1.2.unlisted hl (j:=13) (by kernel_rfl)
  have aA:wx.heap.size≠b:=by have:=HS.out.1.lt;omega
  have o6:W.heap.size≤wx.heap.size:=HS.out.2.2.2.size
  have hJ:=hI.other (F':=GsF b base v T sv er T' wx.heap.size) (fun j hj u hF=>hF.ghostN (Qbb hj hl) (Qbb hj u13))
  exact hK' _ _ ⟨sv,er,T',wx.heap.size,hJ.step Q1f 12 8 rfl (by rw[hsz];decide) _ _ rfl Ha gh (fun _ _ h=>GsF.keeps h HS.out.1 k2 aA) ⟨rfl,_,Holds.new _ _ _⟩,o6⟩
 ·obtain⟨e12,x,mO⟩:c.tmps.getD 8 undef = .pointer (some ⟨N,0,none⟩)∧∃x,Holds wx N #[x] 27:=hI.fact 12 8 rfl (Qka Ha 12 (by kernel_rfl))
  simp only[Array.getD_eq_getD_getElem?]at e12
  have e10:c.tmps.getD 43 undef = .agg #[sv]:=hI.fact 10 43 rfl (Qka Ha 10 (by kernel_rfl))
  simp only[Array.getD_eq_getD_getElem?]at e10
  have u0:=mO.cell 0
  have u1:=mO.free 0
  obtain⟨e9,tW,nV⟩:c.tmps.getD 33 undef = .tuple #[.agg #[sv],.int .i64 er]∧Qda wx base sv T'∧QTf T T' er:=hI.fact 9 33 rfl (by
   have p10:=Qka Ha 10 (by kernel_rfl)
   cases p9:l.getD 9 false with
   | true=>rfl
   | false=>rw[hI.2.2.1.2.unlisted p9 (j:=10) (by kernel_rfl)]at p10;cases p10)
  obtain⟨a2,c2,rfl⟩:=tW.slice
  have n0:wx.cell? ⟨N,0,none⟩=some x:=u0
  have n1:wx.frozen? ⟨N,0,none⟩=false:=u1
  go_simp
  exact hK' _ _ ⟨.slice a2 T'.length c2,er,T',N,hI.stepN 13 rfl _ rfl Ha (HS.out.store mO kP hZW uW hBW) (fun _ _ h=>h.store mO) (mO.set 0 _),kP⟩
 ·have e11:c.tmps.getD 44 undef = .int .i64 er:=hI.fact 11 44 rfl (Qka Ha 11 (by kernel_rfl))
  simp only[Array.getD_eq_getD_getElem?]at e11
  go_simp
  exact hK' _ _ ⟨sv,er,T',N,hI.step Q1f 14 9 rfl (by rw[hsz];decide) _ _ rfl Ha HS.out (fun _ _ h=>h) rfl,kP⟩
def QQq(B b base Z:Nat)(m:Int)(P:List Qba→Prop)(W w:World):Prop:=∃v T,Qtc B w b∧Holds w Z #[v] 27∧Qda w base v T∧Qfa T=0∧(T.length:Int)≤m∧P T∧Qaa (fun i=>i=b∨i=Z) W w
set_option maxRecDepth 100000 in
theorem QHn(B b:Nat)(n:Int)(w:World)(h:Qtc B w b)(hn:0≤n)(jn:n≤30) :
 Calls Tryz.prog 8 #[.pointer (some ⟨b,0,none⟩),.int .i64 n] w fun e w'=>∃v T,e = .returned (.agg #[v])∧Qda w' w.heap.size v T∧Qfa T=0∧(T.length:Int)≤n+1∧(QWd T:Int)≤440*n∧Qtc B w' b∧Qaa (· = b) w w':=by
 have Hh:=h.lt
 have lF:B≤w.heap.size:=Nat.le_trans h.1 (Nat.le_of_lt Hh)
 have He:Below w.heap.size w (w.alloc (.cells #[.slice none 0 0] 27)):=(Below.refl _ _).alloc (Nat.le_refl _) _
 have iM:=QOr (w.alloc (.cells #[.slice none 0 0] 27)) w.heap.size (w.heap.size+1) (by simp) (by omega)
 have jC:=(Holds.new w #[.slice none 0 0] 27).alloc (.cells #[.int .i64 (-1),.string ⟨#[]⟩,.slice none 0 0] 46)
 have jv:IntKind.i64.wrap (n+1)=n+1:=IntWalk.i64_in _ (by omega)
 go_enter Tryz.func8,Tryz.ntmps8
 go_wp2_with fail
 have l8:=Holds.newAt (w:=(w.alloc (.cells #[.slice none 0 0] 27)).alloc (.cells #[.int .i64 (-1),.string ⟨#[]⟩,.slice none 0 0] 46)) (B:=w.heap.size+1+1) (by simp) #[.slice (some ⟨w.heap.size+1,0,none⟩) 1 1] 27
 have Hb:Below w.heap.size w (((w.alloc (.cells #[.slice none 0 0] 27)).alloc (.cells #[.int .i64 (-1),.string ⟨#[]⟩,.slice none 0 0] 46)).alloc (.cells #[.slice (some ⟨w.heap.size+1,0,none⟩) 1 1] 27)):=(He.alloc (by simp) _).alloc (by simp;omega) _
 refine(Qnl B b (n+1) _ (by exact h.new Hb) (by omega) (by omega)).mono ?_
 rintro e w1 ⟨r,rfl,Hx,gd,uj,k1⟩
 have Hs:=l8.keeps k1 (by omega)
 have J2:=((iM.new (by exact(Below.refl _ _).alloc (Nat.le_refl _) _)).tape (by exact h.new Hb) k1)
 have Gg:=(Qaa.of_fresh Hb (fun i=>i=b)).trans k1 (fun _ _ e=>e)
 have bE:w.heap.size+1+1≠b:=by omega
 have hszw:w.heap.size+1+1<w1.heap.size:=Hs.lt
 have GJ:QQq B b w.heap.size (w.heap.size+1+1) 1 QLq w1 w1:=⟨_,_,uj,Hs,(by simpa using J2),Qlo,by simp[Qko],(fun n hn=>by rw[show n=⟨-1,⟨#[]⟩,[]⟩from by simpa[Qko]using hn]),Qaa.refl _ _⟩
 have Bd:B≤w.heap.size+1+1:=by omega
 have H3:w.heap.size≤w1.heap.size:=by omega
 clear Hs J2 uj l8 iM He Hb
 generalize hZdef:w.heap.size+1+1=Z at *
 generalize hRdef:w.heap.size=base at *
 go_upto_block 0 with fail
 go_cut [] (fun wx=>QQq B b base Z (n+1) QLq w1 wx)
 case first=>
  go_wp2_with fail
  go_loopg [6] (r.toNat) (fun f x wr=>∃(q m:Int),x = .int .i64 q∧0≤q∧q.toNat≤f∧m+q=r+1∧QQq B b base Z m QLq w1 wr)
  case atStart=>exact⟨r,1,rfl,Hx,by omega,by omega,GJ⟩
  case round=>
   obtain⟨q,m,rfl,pN,Dh,hqm,v,T,hT,hZ,hr,hs,hl,hP,hk⟩:=hrel
   by_cases hq:0<q
   ·have hX:=hZ.cell 0
    have uU:=hZ.free 0
    have ko:=(Qeb (QPa hs)).1
    have kj:base≤wr.heap.size:=Nat.le_trans H3 hk.size
    have Ge:T.length≤1000:=by omega
    go_wp2_with fail
    refine(Qmp B b base v T _ hT hr ko Ge kj).mono ?_
    rintro e w2 ⟨v2,T2,rfl,gd,kE,Gx,gJ⟩
    obtain⟨a2,c2,rfl⟩:=gd.slice
    have Hw:=hZ.keeps gJ bE
    have y0:=Hw.cell 0
    have yf:=Hw.free 0
    have KP:Qfa T2=0∧(T2.length:Int)≤m+1∧QLq T2:=by
     rcases kE with rfl|h2
     ·exact⟨hs,by omega,hP⟩
     ·obtain⟨sq,nq,hq,eq⟩:=h2 rfl
      obtain⟨h3,h4⟩:=Q1j hq
      have h5:=QYq hP hq
      rw[←eq]at h3 h4 h5
      exact⟨h3,by omega,h5⟩
    have k1:Qaa (· = Z) w2 (w2.setCell ⟨Z,0,none⟩ (.slice a2 T2.length c2)):=(Qaa.refl (· = Z) w2).setCell (p:=⟨Z,0,none⟩) (Or.inr rfl) _
    have Hn:QQq B b base Z (m+1) QLq w1 (w2.setCell ⟨Z,0,none⟩ (.slice a2 T2.length c2)):=
     ⟨_,T2,Gx.keeps k1 (fun i e=>by subst e;exact⟨Bd,bE⟩),Hw.set 0 _,gd.set Hw (by decide) (by decide) 0 _,KP.1,KP.2.1,KP.2.2,(hk.trans (gJ.mono (fun i _ e=>show i=b∨i=Z from Or.inl e)) (fun _ _ e=>e)).trans (k1.mono (fun i _ e=>show i=b∨i=Z from Or.inr e)) (fun _ _ e=>e)⟩
    have HF:=hid Hn
    clear Hn KP kE
    go_wp2_with fail
    go_roundg (q-1).toNat
    case measure=>omega
    case rel=>exact⟨q-1,m+1,rfl,by omega,by omega,by omega,HF.out⟩
   ·have pN:q=0:=by omega
    subst pN
    have Hn:QQq B b base Z (n+1) QLq w1 wr:=⟨v,T,hT,hZ,hr,hs,by omega,hP,hk⟩
    have HF:=hid Hn
    clear Hn
    go_wp2_with fail
    go_meet
    case rel=>exact HF.out
 case rest=>
  obtain⟨v,T,hT,hZ,hr,hs,hl,hP,hk⟩:=hcut
  have hX:=hZ.cell 0
  have uU:=hZ.free 0
  have Je:IntKind.i64.wrap (2*n)=2*n:=IntWalk.i64_in _ (by omega)
  have KU:IntKind.i64.wrap (2*n+1)=2*n+1:=IntWalk.i64_in _ (by omega)
  go_wp2_with fail
  refine(Qnl B b (2*n+1) _ (by exact hT) (by omega) (by omega)).mono ?_
  rintro e w3 ⟨r2,rfl,zp,hr22,JF,k3⟩
  have gn:QQq B b base Z (n+1) (fun T=>(QWd T:Int)+220*r2≤440*n) w1 w3:=⟨v,T,JF,hZ.keeps k3 bE,hr.tape hT k3,hs,hl,by show(QWd T:Int)+_≤_;rw[QYo hP];omega,hk.trans k3 (fun i _ e=>Or.inl e)⟩
  clear hT hZ hr hs hl hP hk hX uU k3 JF
  go_wp2_with fail
  go_loopg [7] (r2.toNat) (fun f x wr=>∃q:Int,x = .int .i64 q∧0≤q∧q.toNat≤f∧q≤r2∧QQq B b base Z (n+1) (fun T=>(QWd T:Int)+220*q≤440*n) w1 wr)
  case atStart=>exact⟨r2,rfl,zp,by omega,by omega,gn⟩
  case round=>
   obtain⟨q,rfl,pN,Dh,vt,v,T,hT,hZ,hr,hs,hl,hP,hk⟩:=hrel
   have hX:=hZ.cell 0
   have uU:=hZ.free 0
   by_cases hq:0<q
   ·have Ge:T.length≤1000:=by omega
    have ko:=(Qeb (QPa hs)).1
    have kj:base≤wr.heap.size:=Nat.le_trans H3 hk.size
    have BJ:=hT.lt
    have fy:=hZ.lt
    have uE:B≤wr.heap.size:=by omega
    have HS:=hid hs
    have HK:=hid hk
    have Jr:GsS B b base Z v T wr wr.drew:=⟨hT.keeps ((Qaa.refl (fun _=>False) _).drew) (fun _ e=>e.elim),hr,hZ,(Qaa.refl _ _).drew⟩
    clear hT hr hs hk hX uU
    go_wp2_with fail
    refine wp_region_any (by kernel_rfl) ?_
    refine Q5a (ops':=Qnf 9) (by kernel_rfl) ?_
    refine QMl B b base Z v T wr _ _ rfl fy BJ uE kj bE ko Ge rfl rfl (by exact Jr) ?_
    intro c w2 sv er T2 N Ga gh e8 hN e9 gd kE kP
    obtain⟨y8,y9,y33,y34,y35,y36,y37,y38,y39,y40,y41,y42,y43,y44,hc⟩:=Ga.ex [8,9,33,34,35,36,37,38,39,40,41,42,43,44] (by kernel_rfl)
    subst hc
    simp only[List.setIfInBounds_toArray,List.set_cons_zero,List.set_cons_succ]at e8 e9 ⊢
    have e8':y8 = .pointer (some ⟨N,0,none⟩):=e8
    have e9':y9 = .int .i64 er:=e9
    subst e8'
    subst e9'
    obtain⟨sa,sc,rfl⟩:=gd.slice
    have dR:=HK.out.trans gh.2.2.2 (fun i _ e=>show i=b∨i=Z from Or.inl e)
    by_cases he:er=0
    ·subst he
     obtain⟨s,nm,va,Hv,vC,kT,Gx⟩:=kE rfl
     have il:=Q5q kT
     obtain⟨gB,sQ⟩:=Q1k kT
     rw[←Gx]at gB sQ il
     have Hw:=gh.2.2.1
     have kz:Qaa (· = Z) w2 (w2.setCell ⟨Z,0,none⟩ (.slice sa T2.length sc)):=(Qaa.refl (· = Z) w2).setCell (p:=⟨Z,0,none⟩) (Or.inr rfl) _
     have HF:=hid (show QQq B b base Z (n+1) (fun T=>(QWd T:Int)+220*(q-1)≤440*n) w1 (w2.setCell ⟨Z,0,none⟩ (.slice sa T2.length sc))from
      ⟨_,T2,gh.1.keeps kz (fun i e=>by subst e;exact⟨Bd,bE⟩),Hw.set 0 _,gd.set Hw (by decide) (by decide) 0 _,gB,by omega,by show(QWd T2:Int)+_≤_;omega,dR.trans kz (fun i _ e=>Or.inr e)⟩)
     have n0:=hN.cell 0
     have z0:=Hw.cell 0
     have z1:=Hw.free 0
     clear gh Hw gd kE gB Gx kT hN Ga e8 e9 HS HK dR kz Jr sQ
     go_wp2_with fail
     go_roundg (q-1).toNat
     case measure=>omega
     case rel=>exact⟨q-1,rfl,by omega,by omega,by omega,HF.out⟩
    ·have he':(er == 0)=false:=by simpa using he
     have HF:=hid (show QQq B b base Z (n+1) (fun T=>(QWd T:Int)+220*(q-1)≤440*n) w1 w2 from⟨v,T,gh.1,gh.2.2.1,gh.2.1,HS.out,hl,by show(QWd T:Int)+_≤_;omega,dR⟩)
     clear gh gd kE hN Ga e8 e9 HS HK dR Jr he
     go_wp2_with fail
     go_roundg (q-1).toNat
     case measure=>omega
     case rel=>exact⟨q-1,rfl,by omega,by omega,by omega,HF.out⟩
   ·obtain⟨qa,qc,rfl⟩:=hr.slice
    have hbZ:base≠Z:=by omega
    have mB:base≠b:=by omega
    have J2:Holds w1 base #[.slice none 0 0] 27:=(jC.alloc (.cells #[.slice (some ⟨base+1,0,none⟩) 1 1] 27)).keeps k1 mB
    have hR:=J2.keeps hk (by omega)
    have hY:=hR.cell 0
    have hYf:=hR.free 0
    have kz:Qaa (· = base) wr (wr.setCell ⟨base,0,none⟩ (.slice qa T.length qc)):=(Qaa.refl (· = base) wr).setCell (p:=⟨base,0,none⟩) (Or.inr rfl) _
    have q0:=(hR.set 0 (.slice qa T.length qc)).cell 0
    have HF:=hid (show Qda (wr.setCell ⟨base,0,none⟩ (.slice qa T.length qc)) base (.slice qa T.length qc) T∧Qfa T=0∧(T.length:Int)≤n+1∧(QWd T:Int)≤440*n∧Qtc B (wr.setCell ⟨base,0,none⟩ (.slice qa T.length qc)) b∧Qaa (· = b) w (wr.setCell ⟨base,0,none⟩ (.slice qa T.length qc))from
     ⟨hr.set hR (by decide) (by decide) 0 _,hs,hl,by omega,hT.keeps kz (fun i e=>by subst e;exact⟨lF,mB⟩),
      Gg.trans ((hk.mono (fun i _ e=>(show i=b∨i=Z∨i=base from by omega))).trans kz (fun i _ e=>(show i=b∨i=Z∨i=base from by omega))) (fun i hi e=>by omega)⟩)
    clear hT hr hs hk hR J2 hZ kz
    go_wp2_with fail
    exact bodyPost_ret (v:=.agg #[.slice qa T.length qc]) (by simp[results,Tryz.results8,go_sem,q0]) rfl ⟨_,rfl,_,HF.out⟩
theorem QQh(B b:Nat)(n:Int)(w:World)(h:Qtc B w b)(hn:0≤n)(jn:n≤30) :
 Calls Tryz.prog 8 #[.pointer (some ⟨b,0,none⟩),.int .i64 n] w fun e w'=>∃v T,e = .returned (.agg #[v])∧Qda w' w.heap.size v T∧Qfa T=0∧(T.length:Int)≤n+1∧Qtc B w' b∧Qaa (· = b) w w':=
 (QHn B b n w h hn jn).mono fun _ _ ⟨v,T,h1,h2,h3,h4,_,h5⟩=>⟨v,T,h1,h2,h3,h4,h5⟩
end Go.Proofs.YtgaboghigefgbaaGreatDoor
