/- bringupgrow.Overlay: SOME overlay of at most some edits of bounded size. | overlay's reader: edit at a node (printed by gova.py). -/
import Derived.Test.YtgaboghigefgbaaGreatDoorZ29
import Derived.Test.YtgaboghigefgbaaGreatDoorZ41
import Derived.Test.YtgaboghigefgbaaGreatDoorZ20
import Derived.Test.YtgaboghigefgbaaGreatDoorZ42
import Derived.Test.YtgaboghigefgbaaGreatDoorZ18
set_option linter.all false
set_option maxHeartbeats 8000000
namespace Go.Proofs.YtgaboghigefgbaaGreatDoor
open Go.Lib (hid)
open Go.RowKit
theorem QBj{T:List Qba}(hc:Qfa T=0){k:Nat}(hk:k<T.length):(QQa T k).size≤4000:=by
 have hp:=Qya hc
 have hl:=Qeb hp.1
 have hf:=QPh hp.2.1 k k (Nat.le_refl _) hk
 have e:(QQa T k).size=(QQa T k).data.toList.length:=by simp
 rw[e,Qzb]
 unfold QLc
 split
 ·simp
 ·rw[←QOi];omega
theorem Qhh:(Tryz.prog.info? 9).map (fun i=>(i.zero,i.size,i.bytes))=some (some (.string ⟨#[]⟩),1,16):=by kernel_rfl
theorem QVm:∀s∈Quk,s.size≤20:=by decide
theorem QWm:∀s∈Q2d,s.size≤20:=by decide
theorem GoS.start{B b:Nat}{w:World}{tv:Value}(nm:ByteArray)(h:Qtc B w b){i:Nat}(hi:i≤60) :
 GoS B b w ((((w.alloc (.cells #[tv] 27)).alloc (.cells #[.string ⟨#[]⟩,.slice none 0 0] 31)).alloc (.cells #[.string nm,.slice none 0 0] 31)).alloc (.cells #[.string ⟨#[47]⟩] 9)) tv nm (.slice (some ⟨w.heap.size+1+1+1,0,none⟩) 1 1) (.slice none 0 0) [⟨#[47]⟩] [] i:=by
 have hx:=Holds.new w #[tv] 27
 have hr:=Holds.newAt (w:=w.alloc (.cells #[tv] 27)) (B:=w.heap.size+1) (by simp) #[.string ⟨#[]⟩,.slice none 0 0] 31
 have ho:=Holds.newAt (w:=(w.alloc (.cells #[tv] 27)).alloc (.cells #[.string ⟨#[]⟩,.slice none 0 0] 31)) (B:=w.heap.size+1+1) (by simp) #[.string nm,.slice none 0 0] 31
 have hp:=QRe (w:=((w.alloc (.cells #[tv] 27)).alloc (.cells #[.string ⟨#[]⟩,.slice none 0 0] 31)).alloc (.cells #[.string nm,.slice none 0 0] 31)) (B:=w.heap.size+1+1+1) (base:=w.heap.size) (e:=9) (size:=1) (n:=1) (cs:=#[.string ⟨#[47]⟩]) (by simp) (by omega) rfl (by omega)
 have k:Qaa (fun _=>False) w ((((w.alloc (.cells #[tv] 27)).alloc (.cells #[.string ⟨#[]⟩,.slice none 0 0] 31)).alloc (.cells #[.string nm,.slice none 0 0] 31)).alloc (.cells #[.string ⟨#[47]⟩] 9)):=((((Qaa.refl _ w).alloc _).alloc _).alloc _).alloc _
 exact⟨((hx.alloc _).alloc _).alloc _,(hr.alloc _).alloc _,ho.alloc _,hp,World.ownsRow_nil _ _ _ _,fun _=>rfl,h.keeps k (fun _ e=>e.elim),k.mono (fun _ _ e=>e.elim),h.lt,by simp,by simp;omega,(fun s hs=>by rw[List.mem_singleton]at hs;subst hs;show 1+_≤_;omega),(fun x hx=>by cases hx),by simp;omega⟩
def Q7r(B b:Nat)(nm:ByteArray)(w:World)(e:Ending)(w':World):Prop:=
 ∃(ev:Value) (es:List Qja),e = .returned (.agg #[.string nm,ev])∧w'.ownsRow w.heap.size 39 4 ev es.length (Qqa es)∧QAe es∧es.length≤100∧Qtc B w' b∧Qaa (· = b) w w'
set_option maxRecDepth 100000 in
theorem QDd(B b base:Nat)(tv:Value)(T:List Qba)(nm:ByteArray)(w:World)(h:Qtc B w b)(hT:Qda w base tv T)(hc:Qfa T=0)(hl:T.length≤40) :
 Calls Tryz.prog 9 #[.pointer (some ⟨b,0,none⟩),.agg #[tv],.string nm] w (Q7r B b nm w):=by
 have AQ:=GoS.start (tv:=tv) nm h (i:=T.length+6) (by omega)
 obtain⟨ta,tcap,rfl,uj,Kw⟩:=hT.in.shape
 have lr:=hid (fun wx (k:Qaa (· = b) w wx)=>hT.tape h k)
 have HC:=hid hc
 have B5:=hid AQ
 clear hT hc h AQ
 go_enter Tryz.func9,Tryz.ntmps9
 go_wp2_with fail
 go_loopg [22,8] (T.length) (fun f x y wr=>∃(k:Nat) (ps:List ByteArray),x = .int .i64 k∧k≤T.length∧T.length≤k+f∧Hid (GoS B b w wr (.slice ta T.length tcap) nm y (.slice none 0 0) ps [] (T.length-k+6)))
 case atStart=>exact⟨0,_,rfl,by omega,by omega,B5⟩
 case round=>
  obtain⟨k,ps,rfl,hk,hf,HG⟩:=hrel
  obtain⟨pv,rfl⟩:∃y:Value,y=u8:=⟨_,rfl⟩
  obtain⟨pa,pc,rfl⟩:=Qea HG.out.hp
  have x0:=HG.out.hx.cell 0
  have xl:=HG.out.hx.lt
  by_cases Hh:k<T.length
  ·have MX:(k:Int)<(T.length:Int):=by omega
   have HP:=hid (Qbi (fun g=>base≤g) (.slice ta T.length tcap) T (k:Int) wr (lr.out wr HG.out.hK).in)
   rw[Q0p HC.out Hh]at HP
   have kR:=QBj HC.out Hh
   generalize QQa T k=s at *
   have jl:=HG.out.hlen
   go_wp2_with fail
   refine(by exact HP.out:Calls _ _ _ _ _).mono ?_
   rintro e w2 ⟨rfl,Hc⟩
   have lM:=HG.out.fresh Hc
   obtain⟨i0,hi,H4,Hp,gj⟩:=info_parts Qhh
   rw[show T.length-k+6=(T.length-(k+1)+6)+1 from by omega]at lM
   have re:=lM.alloc (.cells #[.string s] 9)
   have oE:=hid re
   clear Hc lM re x0 xl
   go_wp2_with (at_builtin;refine wpList_append_own _ rfl (.tmp 25) (.tmp 29) 70 rfl w.heap.size 9 i0 (.string ⟨#[]⟩) 1 16 Tryz.underlying70 hi H4 Hp gj rfl (by decide) (.slice pa ps.length pc) ps.length (QHc ps) rfl (by exact oE.out.hp) ⟨w2.heap.size,0,none⟩ 1 1 [.string s] rfl rfl ?c1 ?c2 ?c3 ?c4 ?c5 ?_)
   case c1=>exact Q2a _ _ _ _ rfl _ rfl
   case c2=>intro u hu;simp at hu;subst hu;rfl
   case c3=>unfold maxLen;omega
   case c4=>omega
   case c5=>exact oE.out.size
   intro v' w6 Hg Hd _
   have lN:=oE.out.path Hg Hd (by omega)
   have dw:=hid lN
   clear Hg Hd lN
   obtain⟨va,vc,hv⟩:=Qea dw.out.hp
   subst hv
   go_wp2_with fail
   go_roundg (gk-1)
   case measure=>omega
   case rel=>exact⟨k+1,_,by go_num,by omega,by omega,dw⟩
  ·have MX:¬(k:Int)<(T.length:Int):=by omega
   have lM:=HG.out
   rw[show T.length-k+6=6 from by omega]at lM
   have fE:=hid lM
   clear lM HG x0 xl
   go_wp2_with fail
   refine(Qnl B b 6 _ fE.out.hT (by omega) (by omega)).mono ?_
   rintro e w2 ⟨r,rfl,r0,r1,Gx,gf⟩
   obtain⟨r,rfl⟩:=Int.eq_ofNat_of_zero_le r0
   have re:=fE.out.turn Gx gf
   have oE:=hid re
   clear re Gx gf fE
   obtain⟨go,rfl⟩:∃x:Nat,x=gk:=⟨_,rfl⟩
   obtain⟨wo,rfl⟩:∃x:World,x=wr:=⟨_,rfl⟩
   go_wp2_with fail
   go_loopg [8,10] r (fun f x y wr=>∃(i:Nat) (ps:List ByteArray) (ev:Value) (es:List Qja),y = .int .i64 i∧i≤f∧Hid (GoS B b w wr (.slice ta T.length tcap) nm x ev ps es (i+1)))
   case atStart=>exact⟨r,ps,.slice none 0 0,[],rfl,Nat.le_refl _,hid (oE.out.mono (by omega))⟩
   case round=>
    clear oE
    obtain⟨i,ps,ev,es,rfl,hf,HG⟩:=hrel
    obtain⟨pv,rfl⟩:∃y:Value,y=u8:=⟨_,rfl⟩
    obtain⟨ea,ec,rfl⟩:=Qea HG.out.he
    obtain⟨pg,pc,rfl,hpg1,zg⟩:=HG.out.hp.form HG.out.hpos
    have hpos:=HG.out.hpos
    have jl:=HG.out.hlen
    have hel:=HG.out.hel
    by_cases Kp:0<i
    ·have sy:(0:Int)<(i:Int):=by omega
     obtain⟨j,rfl⟩:∃j,i=j+1:=⟨i-1,by omega⟩
     go_wp2_with fail
     refine(Qnl B b (ps.length:Int) _ HG.out.hT (by omega) (by omega)).mono ?_
     rintro e w4 ⟨q,rfl,q0,q1,Mz,kW⟩
     obtain⟨q,rfl⟩:=Int.eq_ofNat_of_zero_le q0
     have hq:q<ps.length:=by omega
     have lN:=HG.out.turn Mz kW
     have Bk:w4.cell? ⟨pg,q,none⟩=some (.string ps[q]):=by
      rw[lN.hp.cellAt q (by omega)]
      simp[QHc,hq]
     have gN:=World.block_lt_of_cell? w4 _ Bk
     have hpsz:=lN.hsz ps[q] (List.getElem_mem hq)
     have dw:=hid lN
     clear Mz kW lN HG zg
     generalize ps[q]=p at *
     go_wp2_with fail
     refine(Qkh B b 1 3 _ dw.out.hT (by omega) (by omega) (by omega)).mono ?_
     rintro e w5 ⟨kd,rfl,kd0,kd1,jF,gR⟩
     have uI:=dw.out.turn jF gR
     have AO:=Holds.new w5 #[.int .i64 kd,.string p,.string ⟨#[]⟩,.string ⟨#[]⟩] 39
     have oV:(Value.slice ea es.length ec).ownBlock≠some w5.heap.size:=fun e=>by have:=(uI.he.lt _ e).2;omega
     have oX:w.heap.size≤w5.heap.size:=uI.size
     have cR:=hid (uI.alloc (.cells #[.int .i64 kd,.string p,.string ⟨#[]⟩,.string ⟨#[]⟩] 39))
     have KD:=hid AO
     clear jF gR uI AO Bk gN dw
     have dP:¬w5.heap.size=b:=by have:=cR.out.hb;omega
     go_upto_block 4 with fail
     generalize w5.alloc (.cells #[.int .i64 kd,.string p,.string ⟨#[]⟩,.string ⟨#[]⟩] 39)=W5 at *
     generalize w5.heap.size=E at *
     go_cut [8] (fun y wx=>∃(ps':List ByteArray) (pt nn vv:ByteArray),Hid (Holds wx E #[.int .i64 kd,.string pt,.string nn,.string vv] 39)∧(pt.size≤100000∧nn.size≤1000∧vv.size≤1000)∧Hid (GoS B b w wx (.slice ta T.length tcap) nm y (.slice ea es.length ec) ps' es (j+1)))
     case first=>
      have Hy:kd=1∨kd=2∨kd=3:=by omega
      clear kd0 kd1
      rcases Hy with rfl|rfl|rfl
      ·have aV:=True.intro
       obtain⟨s1,gS,ko,_⟩:=Qrl p ⟨#[47]⟩ (by show _+1≤_;omega)
       have hs1':s1.size=p.size+1:=ko
       unfold QKo at gS
       have e0:=KD.out.cell 0
       have e1:=KD.out.cell 1
       have e2:=KD.out.cell 2
       have e3:=KD.out.cell 3
       have f1:=KD.out.free 1
       have f2:=KD.out.free 2
       have f3:=KD.out.free 3
       have fl:=KD.out.lt
       go_wp2_with fail
       refine(QZl B b _ cR.out.hT).mono ?_
       rintro e w6 ⟨n1,rfl,JA,jG,Ki⟩
       have tA:=QVm n1 JA
       obtain⟨s2,pq,GB,_⟩:=Qrl s1 n1 (by omega)
       unfold QKo at pq
       clear e0 e1 e2 e3 f1 f2 f3 fl
       have oF:=hid (cR.out.turn jG Ki)
       have kO:=hid (KD.out.keeps Ki dP)
       clear jG Ki
       have e0:=kO.out.cell 0
       have e1:=kO.out.cell 1
       have e2:=kO.out.cell 2
       have e3:=kO.out.cell 3
       have f1:=kO.out.free 1
       have f2:=kO.out.free 2
       have f3:=kO.out.free 3
       have fl:=kO.out.lt
       have dx:=hid (oF.out.other (o:=1) kO.out oX (by decide) (by decide) (by decide) (.inr oV) (.string s2))
       have KV:=hid (kO.out.set 1 (.string s2))
       have aR:Hid (Holds (w6.setCell ⟨E,1,none⟩ (.string s2)) E #[.int .i64 1,.string s2,.string ⟨#[]⟩,.string ⟨#[]⟩] 39):=KV
       clear KV
       have g1:=aR.out.cell 1
       have h1:=aR.out.free 1
       have GO:=aR.out.lt
       cases hroot:(p.toList == [47])with
       | false=>
        have KV:=aR
        obtain⟨i0,hi,H4,Hp,gj⟩:=info_parts Qhh
        have dy:=hid (dx.out.alloc (.cells #[.string s2] 9))
        have oC:=hid (KV.out.alloc (.cells #[.string s2] 9))
        go_wp2_with (at_builtin;refine wpList_append_own _ rfl (.tmp 68) (.tmp 71) 70 rfl w.heap.size 9 i0 (.string ⟨#[]⟩) 1 16 Tryz.underlying70 hi H4 Hp gj rfl (by decide) (.slice (some ⟨pg,0,none⟩) ps.length pc) ps.length (QHc ps) rfl (by exact dy.out.hp) ⟨_,0,none⟩ 1 1 [.string s2] rfl rfl ?c1 ?c2 ?c3 ?c4 ?c5 ?_)
        case c1=>exact Q2a _ _ _ _ (by simp) _ rfl
        case c2=>intro u hu;simp at hu;subst hu;rfl
        case c3=>unfold maxLen;omega
        case c4=>omega
        case c5=>exact dy.out.size
        intro v' w9 Hg Hd _
        have bt:=dy.out.path Hg Hd (by omega)
        have rd:=oC.out.grown Hd (QFa dy.out.hp oC.out (by decide))
        have lf:=hid bt
        have qj:=hid rd
        clear Hg Hd bt rd
        obtain⟨va,vc,hv⟩:=Qea lf.out.hp
        subst hv
        go_wp2_with fail
        go_meet
        exact⟨_,_,_,_,qj,⟨by omega,by decide,by decide⟩,lf⟩
       | true=>
        go_wp2_with fail
        refine(QZl B b _ dx.out.hT).mono ?_
        rintro e w8 ⟨n2,rfl,jn,uO,jE⟩
        have hn22:=QVm n2 jn
        obtain⟨s3,CZ,ud,_⟩:=Qrl ⟨#[47]⟩ n2 (by show 1+_≤_;omega)
        have hs3':s3.size=1+n2.size:=ud
        unfold QKo at CZ
        have KV:=aR
        clear e0 e1 e2 e3 f1 f2 f3 fl g1 h1 GO
        have ld:=hid (dx.out.turn uO jE)
        have Mc:=hid (KV.out.keeps jE dP)
        clear uO jE
        have e0:=Mc.out.cell 0
        have e1:=Mc.out.cell 1
        have e2:=Mc.out.cell 2
        have e3:=Mc.out.cell 3
        have f1:=Mc.out.free 1
        have f2:=Mc.out.free 2
        have f3:=Mc.out.free 3
        have fl:=Mc.out.lt
        have vR:=hid (ld.out.other (o:=1) Mc.out oX (by decide) (by decide) (by decide) (.inr oV) (.string s3))
        have JO:=hid (Mc.out.set 1 (.string s3))
        have qi:Hid (Holds (w8.setCell ⟨E,1,none⟩ (.string s3)) E #[.int .i64 1,.string s3,.string ⟨#[]⟩,.string ⟨#[]⟩] 39):=JO
        clear JO
        have JO:=qi
        have g1:=JO.out.cell 1
        have GO:=JO.out.lt
        obtain⟨i0,hi,H4,Hp,gj⟩:=info_parts Qhh
        have dy:=hid (vR.out.alloc (.cells #[.string s3] 9))
        have oC:=hid (JO.out.alloc (.cells #[.string s3] 9))
        go_wp2_with (at_builtin;refine wpList_append_own _ rfl (.tmp 68) (.tmp 71) 70 rfl w.heap.size 9 i0 (.string ⟨#[]⟩) 1 16 Tryz.underlying70 hi H4 Hp gj rfl (by decide) (.slice (some ⟨pg,0,none⟩) ps.length pc) ps.length (QHc ps) rfl (by exact dy.out.hp) ⟨_,0,none⟩ 1 1 [.string s3] rfl rfl ?c1 ?c2 ?c3 ?c4 ?c5 ?_)
        case c1=>exact Q2a _ _ _ _ (by simp) _ rfl
        case c2=>intro u hu;simp at hu;subst hu;rfl
        case c3=>unfold maxLen;omega
        case c4=>omega
        case c5=>exact dy.out.size
        intro v' w9 Hg Hd _
        have bt:=dy.out.path Hg Hd (by omega)
        have rd:=oC.out.grown Hd (QFa dy.out.hp oC.out (by decide))
        have lf:=hid bt
        have qj:=hid rd
        clear Hg Hd bt rd
        obtain⟨va,vc,hv⟩:=Qea lf.out.hp
        subst hv
        go_wp2_with fail
        go_meet
        exact⟨_,_,_,_,qj,⟨by omega,by decide,by decide⟩,lf⟩
      ·have aV:=True.intro
       have e0:=KD.out.cell 0
       have e1:=KD.out.cell 1
       have e2:=KD.out.cell 2
       have e3:=KD.out.cell 3
       have f1:=KD.out.free 1
       have f2:=KD.out.free 2
       have f3:=KD.out.free 3
       have fl:=KD.out.lt
       go_wp2_with fail
       refine(QIf B b _ cR.out.hT).mono ?_
       rintro e w6 ⟨n1,rfl,JA,jG,Ki⟩
       have tA:=QWm n1 JA
       clear e0 e1 e2 e3 f1 f2 f3 fl
       have oF:=hid (cR.out.turn jG Ki)
       have kO:=hid (KD.out.keeps Ki dP)
       clear jG Ki
       go_wp2_with fail
       refine(QQi B b _ oF.out.hT).mono ?_
       rintro e w7 ⟨n2,rfl,jn,lX,mV⟩
       have dx:=hid (oF.out.turn lX mV)
       have KV:=hid (kO.out.keeps mV dP)
       clear lX mV
       have e0:=KV.out.cell 0
       have e1:=KV.out.cell 1
       have e2:=KV.out.cell 2
       have e3:=KV.out.cell 3
       have f1:=KV.out.free 1
       have f2:=KV.out.free 2
       have f3:=KV.out.free 3
       have fl:=KV.out.lt
       have ld:=hid (dx.out.other (o:=2) KV.out oX (by decide) (by decide) (by decide) (.inr oV) (.string n1))
       have Mc:=hid (KV.out.set 2 (.string n1))
       have lf:=hid (ld.out.other (o:=3) Mc.out oX (by decide) (by decide) (by decide) (.inr oV) (.string n2))
       have qj:=hid (Mc.out.set 3 (.string n2))
       have g2:=Mc.out.cell 3
       have g3:=Mc.out.free 3
       have gl:=Mc.out.lt
       go_wp2_with fail
       go_meet
       exact⟨_,_,_,_,qj,⟨by omega,by omega,by omega⟩,hid lf.out.less⟩
      ·have aV:=True.intro
       have e0:=KD.out.cell 0
       have e1:=KD.out.cell 1
       have e2:=KD.out.cell 2
       have e3:=KD.out.cell 3
       have f1:=KD.out.free 1
       have f2:=KD.out.free 2
       have f3:=KD.out.free 3
       have fl:=KD.out.lt
       go_wp2_with fail
       refine(QIf B b _ cR.out.hT).mono ?_
       rintro e w6 ⟨n1,rfl,JA,jG,Ki⟩
       have tA:=QWm n1 JA
       clear e0 e1 e2 e3 f1 f2 f3 fl
       have oF:=hid (cR.out.turn jG Ki)
       have kO:=hid (KD.out.keeps Ki dP)
       clear jG Ki
       have e0:=kO.out.cell 0
       have e1:=kO.out.cell 1
       have e2:=kO.out.cell 2
       have e3:=kO.out.cell 3
       have f1:=kO.out.free 1
       have f2:=kO.out.free 2
       have f3:=kO.out.free 3
       have fl:=kO.out.lt
       have ld:=hid (oF.out.other (o:=2) kO.out oX (by decide) (by decide) (by decide) (.inr oV) (.string n1))
       have Mc:=hid (kO.out.set 2 (.string n1))
       go_wp2_with fail
       go_meet
       exact⟨_,_,_,_,Mc,⟨by omega,by omega,by decide⟩,hid ld.out.less⟩
     case rest=>
      obtain⟨ps',pt,nn,vv,HE,⟨Hp,gj,hz3⟩,HG⟩:=hcut
      obtain⟨w6,rfl⟩:∃x:World,x=wc:=⟨_,rfl⟩
      go_wp2_with fail
      refine(Qnl B b 25 _ HG.out.hT (by omega) (by omega)).mono ?_
      rintro e w7 ⟨z,rfl,z0,z1,lX,mV⟩
      have dx:=hid (HG.out.turn lX mV)
      have KV:=hid (HE.out.keeps mV dP)
      clear lX mV HG HE
      have f1:=KV.out.free 1
      have c1:=KV.out.cell 1
      have fl:=KV.out.lt
      go_upto_if 83 with fail
      go_cut [84] (fun _ wx=>∃pt':ByteArray,Hid (Holds wx E #[.int .i64 kd,.string pt',.string nn,.string vv] 39)∧pt'.size≤100000∧Hid (GoS B b w wx (.slice ta T.length tcap) nm u8 (.slice ea es.length ec) ps' es (j+1)))
      case first=>
       by_cases hz:z=24
       ·subst hz
        have ld:=hid (dx.out.other (o:=1) KV.out oX (by decide) (by decide) (by decide) (.inr oV) (.string ⟨#[47,109,105,115,115,105,110,103]⟩))
        have Mc:=hid (KV.out.set 1 (.string ⟨#[47,109,105,115,115,105,110,103]⟩))
        go_wp2_with fail
        go_meet
        exact⟨_,Mc,by decide,ld⟩
       ·have uw:(z == 24)=false:=by simpa using hz
        go_wp2_with fail
        go_meet
        exact⟨_,KV,Hp,dx⟩
      case rest=>
       clear f1 c1 fl dx KV
       obtain⟨pt',HE,zJ,HG⟩:=hcut
       obtain⟨w8,rfl⟩:∃x:World,x=wc:=⟨_,rfl⟩
       obtain⟨gm,rfl⟩:∃x:Nat,x=gk:=⟨_,rfl⟩
       obtain⟨wm,rfl⟩:∃x:World,x=wr:=⟨_,rfl⟩
       have o1:=HG.out.ho.cell 1
       have ol:=HG.out.ho.lt
       go_wp2_with fail
       clear o1 ol
       go_loopg [88,13] (es.length) (fun f x y wr=>∃(q:Nat) (kn:Bool),x = .int .i64 q∧y = .bool kn∧q≤es.length∧es.length≤q+f∧Hid (GoS B b w wr (.slice ta T.length tcap) nm u8 (.slice ea es.length ec) ps' es (j+1))∧Hid (Holds wr E #[.int .i64 kd,.string pt',.string nn,.string vv] 39))
       case atStart=>exact⟨0,false,rfl,rfl,by omega,by omega,HG,HE⟩
       case round=>
        clear HG HE
        obtain⟨q,kn,rfl,rfl,tV,kT,HG,HE⟩:=hrel
        by_cases Hh:q<es.length
        ·have MX:(q:Int)<(es.length:Int):=by omega
         obtain⟨g,o,e1,hg,H7⟩:=Qwc (Qhc HG.out.he) (by omega)
         subst e1
         obtain⟨d0,d1,d2,d3⟩:=H7 q Hh
         have fE:=hid (HG.out.alloc (.cells #[.int .i64 es[q].kind,.string es[q].path,.string es[q].name,.string es[q].value] 39))
         have aQ:=hid (HE.out.alloc (.cells #[.int .i64 es[q].kind,.string es[q].path,.string es[q].name,.string es[q].value] 39))
         have b1:=HE.out.cell 1
         have b2:=HE.out.cell 2
         have bl:=HE.out.lt
         clear H7
         generalize es[q]=x at *
         cases kn with
         | true=>
          go_wp2_with fail
          go_roundg (gk-1)
          case measure=>omega
          case rel=>exact⟨q+1,_,by go_num,rfl,by omega,by omega,fE,aQ⟩
         | false=>
          cases h1:(x.path.toList == pt'.toList)with
          | false=>
           go_wp2_with fail
           go_roundg (gk-1)
           case measure=>omega
           case rel=>exact⟨q+1,_,by go_num,rfl,by omega,by omega,fE,aQ⟩
          | true=>
           cases h2:(x.name.toList == nn.toList)with
           | false=>
            go_wp2_with fail
            go_roundg (gk-1)
            case measure=>omega
            case rel=>exact⟨q+1,_,by go_num,rfl,by omega,by omega,fE,aQ⟩
           | true=>
            go_wp2_with fail
            go_roundg (gk-1)
            case measure=>omega
            case rel=>exact⟨q+1,_,by go_num,rfl,by omega,by omega,fE,aQ⟩
        ·have MX:¬(q:Int)<(es.length:Int):=by omega
         cases kn with
         | true=>
          go_wp2_with fail
          go_roundg (gm-1)
          case measure=>omega
          case rel=>exact⟨j,ps',.slice ea es.length ec,es,by go_num,by omega,HG⟩
         | false=>
          have o1:=HG.out.ho.cell 1
          have ol:=HG.out.ho.lt
          have b0:=HE.out.cell 0
          have b1:=HE.out.cell 1
          have b2:=HE.out.cell 2
          have b3:=HE.out.cell 3
          have bl:=HE.out.lt
          have Ak:=hid (Qat w.heap.size (.slice ea es.length ec) es ⟨kd,pt',nn,vv⟩ wr HG.out.he HG.out.hnil HG.out.size (by omega))
          go_wp2_with fail
          refine(by exact Ak.out:Calls _ _ _ _ _).mono ?_
          rintro e w9 ⟨v',k2,gJ,rfl,Hj,GU⟩
          obtain⟨va,vc,rfl⟩:=Qea Hj
          have Jx:(es.take k2++(⟨kd,pt',nn,vv⟩:Qja)::es.drop k2).length=es.length+1:=by simp;omega
          have pS:QAe (es.take k2++(⟨kd,pt',nn,vv⟩:Qja)::es.drop k2):=by
           intro y hy
           rcases List.mem_append.1 hy with hy|hy
           ·exact HG.out.hes y (List.mem_of_mem_take hy)
           ·rcases List.mem_cons.1 hy with rfl|hy
            ·exact⟨by show pt'.size≤_;omega,by show nn.size≤_;omega,by show vv.size≤_;omega⟩
            ·exact HG.out.hes y (List.mem_of_mem_drop hy)
          have bt:=HG.out.fresh GU
          have AR:=bt.put (v':=.slice va (es.length+1) vc) (es':=es.take k2++(⟨kd,pt',nn,vv⟩:Qja)::es.drop k2) (by rw[Jx];exact Hj) (by simp) pS (by rw[Jx];omega)
          have y1:=bt.ho.cell 1
          have y2:=bt.ho.free 1
          have yl:=bt.ho.lt
          have B6:=hid AR
          have Aa:=hid Jx
          clear bt AR Hj GU pS Jx Ak o1 ol b0 b1 b2 b3 bl
          go_wp2_with fail
          go_roundg (gm-1)
          case measure=>omega
          case rel=>exact⟨j,ps',_,_,by go_num,by omega,B6⟩
    ·have sy:¬(0:Int)<(i:Int):=by omega
     obtain⟨q1,q2,q3⟩:=HG.out.out
     have o0:=HG.out.ho.cell 0
     have o1:=HG.out.ho.cell 1
     have ol:=HG.out.ho.lt
     have r0:=HG.out.hr.free 0
     have r1:=HG.out.hr.free 1
     have rl:=HG.out.hr.lt
     have s0:=HG.out.hr.cell 0
     have s1:=HG.out.hr.cell 1
     have MI:=(HG.out.hr.set 0 (.string nm)).set 1 (.slice ea es.length ec)
     have z0:=MI.cell 0
     have z1:=MI.cell 1
     have BY:=hid (show Q7r B b nm w (.returned (.agg #[.string nm,.slice ea es.length ec])) _ from⟨.slice ea es.length ec,es,rfl,q1,HG.out.hes,by have:=HG.out.hel;omega,q2,q3⟩)
     clear q1 q2 q3 MI
     go_wp2_with fail
     exact bodyPost_ret (v:=.agg #[.string nm,.slice ea es.length ec]) (by simp[results,Tryz.results9,go_sem,z0,z1]) rfl BY.out
set_option maxRecDepth 100000 in
theorem Qdp(rb base:Nat)(ov ev pv:Value)(nm text:ByteArray)(d4 d5 d6:Int)(op:List ByteArray)(p:ByteArray)(t0 t1 s:ByteArray)(w:World)
 (hR:Holds w rb #[ov,ev] 120) (hV:∀wx,Below w.heap.size w wx→Calls Tryz.prog 123 #[pv] wx fun e w'=>e = .returned (.tuple #[.string text,.bool true])∧Below wx.heap.size wx w')
 (KR:∃a n c,pv = .slice a n c) (Hv:Lib.hasPrefix nm.data.toList [38]=false) (MJ:text.size≤256) (hb:base≤w.heap.size) (mm:w.ownsRow base 9 1 ov (op.length+1) (QHc (op++[p]))) (hp:p.size≤1000000) (ht0:(⟨(Lib.trimSuffix p.data.toList [47]).toArray⟩:ByteArray)=t0) (gS:QKo t0 ⟨#[47]⟩ t1) (pq:QKo t1 nm s) (M0:op.length≤1000) :
 Calls Tryz.prog 86 #[.pointer (some ⟨rb,0,none⟩),.agg #[.int .i64 1,.string ⟨#[]⟩,.string nm,pv,.int .i64 d4,.int .i64 d5,.int .i64 d6]] w fun e w'=>∃ov',e = .returned (.tuple #[.agg #[.int .i64 1,.string s,.string ⟨#[]⟩,.string ⟨#[]⟩],.bool true,.int .i64 0])∧Holds w' rb #[ov',ev] 120∧w'.ownsRow base 9 1 ov' (op.length+1+1) (QHc (op++[p,s]))∧Qaa (fun i=>i=rb∨ov.ownBlock=some i) w w':=by
 obtain⟨og,oc,rfl,eZ,Hf⟩:=mm.form (by omega)
 have fJ:=hid mm
 have bY:=Qoh mm
 unfold QKo at gS pq
 have Ar:=hid (fun wx=>Tryz.strings_TrimSuffix p ⟨#[47]⟩ wx (by omega))
 rw[show(⟨#[47]⟩:ByteArray).data.toList=[47]from rfl,ht0]at Ar
 clear mm ht0
 obtain⟨va,vn,vc,rfl⟩:=KR
 have Ju:=(Holds.new w #[.int .i64 1,.string ⟨#[]⟩,.string nm,.slice va vn vc,.int .i64 d4,.int .i64 d5,.int .i64 d6] 123).alloc (.cells #[.int .i64 0,.string ⟨#[]⟩,.string ⟨#[]⟩,.string ⟨#[]⟩] 39)
 have H4:=Holds.newAt (w:=w.alloc (.cells #[.int .i64 1,.string ⟨#[]⟩,.string nm,.slice va vn vc,.int .i64 d4,.int .i64 d5,.int .i64 d6] 123)) (B:=w.heap.size+1) (by simp) #[.int .i64 0,.string ⟨#[]⟩,.string ⟨#[]⟩,.string ⟨#[]⟩] 39
 have He:Below w.heap.size w ((w.alloc (.cells #[.int .i64 1,.string ⟨#[]⟩,.string nm,.slice va vn vc,.int .i64 d4,.int .i64 d5,.int .i64 d6] 123)).alloc (.cells #[.int .i64 0,.string ⟨#[]⟩,.string ⟨#[]⟩,.string ⟨#[]⟩] 39)):=((Below.refl _ _).alloc (Nat.le_refl _) _).alloc (by simp) _
 have Ji:=hid Ju
 have mU:=hid H4
 have G5:=hid He
 have HV:=hid (hV _ He)
 have Jj:=hid (fun wx=>Tryz.strings_HasPrefix nm ⟨#[38]⟩ wx)
 rw[show(⟨#[38]⟩:ByteArray).data.toList=[38]from rfl,Hv]at Jj
 have vx:¬(256:Int)<(text.size:Int):=by omega
 clear Ju H4 He hV Hv
 go_enter Tryz.func86,Tryz.ntmps86
 go_wp2_with fail
 refine(by exact HV.out:Calls _ _ _ _ _).mono ?_
 rintro e w1 ⟨rfl,Hb⟩
 have Gy:=Ji.out.keeps (Qaa.of_fresh Hb (fun _=>False)) (fun e=>e)
 have Hp:=mU.out.keeps (Qaa.of_fresh Hb (fun _=>False)) (fun e=>e)
 have HJ:=hid (G5.out.trans (Hb.mono G5.out.size))
 have Hx:=hR.keeps (Qaa.of_fresh HJ.out (fun _=>False)) (fun e=>e)
 have a0:=Gy.cell 0
 have a1:=Gy.cell 1
 have a2:=Gy.cell 2
 have a3:=Gy.cell 3
 have al:=Gy.lt
 have z0:=Hp.cell 0
 have z1:=Hp.cell 1
 have z2:=Hp.cell 2
 have z3:=Hp.cell 3
 have zf0:=Hp.free 0
 have zf1:=Hp.free 1
 have zf2:=Hp.free 2
 have zf3:=Hp.free 3
 have zl:=Hp.lt
 have r0:=Hx.cell 0
 have r1:=Hx.cell 1
 have rf0:=Hx.free 0
 have rf1:=Hx.free 1
 have rl:=Hx.lt
 have kr:=hid Hx
 have JN:=hid Gy
 have Ky:=hid Hp
 have hrb:¬rb=w.heap.size+1:=by have:=hR.lt;omega
 have iR:=hR.lt
 clear Gy Hp Hb Hx Ji mU HV hR
 go_wp2_with fail
 refine(by exact Jj.out _:Calls _ _ _ _ _).mono ?_
 rintro e w2 ⟨rfl,rfl⟩
 have jo:=Qhb fJ.out HJ.out
 have gE:w2.cell? ⟨og,op.length,none⟩=some (.string p):=by
  rw[jo.cellAt _ (by omega)];simp[QHc]
 have nN:=World.block_lt_of_cell? w2 _ gE
 have yF:¬((op.length:Int)+1=0):=by omega
 have Bi:(op.length:Int)<(op.length:Int)+1:=by omega
 have uW:IntKind.i64.wrap (op.length:Int)=(op.length:Int):=IntWalk.i64_in _ (by omega)
 clear jo
 go_wp2_with fail
 go_upto_region 14 with fail
 refine wp_region_any (by kernel_rfl) ?_
 refine Q5a (ops':=Qzi) (by kernel_rfl) ?_
 refine Q5l rb w.heap.size og op.length (op.length+1) oc ev (.slice va vn vc) nm p t0 t1 s d4 d5 d6 w2 _ _ rfl (hid rfl) M0 (hid gS) (hid pq) Ar rfl rfl ⟨kr.out,JN.out,gE⟩ ((Below.refl _ _).drew) ?_
 intro c w3 Ga h9 Hi
 obtain⟨y9,y75,y76,y77,y78,y79,y80,y81,y82,y83,y84,y85,y86,y87,y88,y89,y90,y91,rfl⟩:=Ga.ex [9,75,76,77,78,79,80,81,82,83,84,85,86,87,88,89,90,91] (by kernel_rfl)
 simp only[List.setIfInBounds_toArray,List.set_cons_zero,List.set_cons_succ]at h9 ⊢
 have h9':y9 = .string s:=h9
 subst h9'
 have jR:=hid (kr.out.keeps (Qaa.of_fresh Hi (fun _=>False)) (fun e=>e))
 have KN:=hid (Ky.out.keeps (Qaa.of_fresh Hi (fun _=>False)) (fun e=>e))
 have fI:=hid (Qhb (Qhb fJ.out HJ.out) Hi)
 have KK:=hid (HJ.out.trans (Hi.mono HJ.out.size))
 have r0:=jR.out.cell 0
 have rf0:=jR.out.free 0
 have rl:=jR.out.lt
 obtain⟨i0,hi,H4,Hp,gj⟩:=info_parts Qhh
 clear Ga h9 Hi a0 a1 a2 a3 al z0 z1 z2 z3 zf0 zf1 zf2 zf3 zl r1 rf1 gE nN
 go_wp2_with (at_builtin;refine wpList_append_own _ rfl (.tmp 96) (.tmp 98) 70 rfl base 9 i0 (.string ⟨#[]⟩) 1 16 Tryz.underlying70 hi H4 Hp gj rfl (by decide) (.slice (some ⟨og,0,none⟩) (op.length+1) oc) (op.length+1) (QHc (op++[p])) rfl (by exact World.ownsRow.alloc fI.out _) ⟨w3.heap.size,0,none⟩ 1 1 [.string s] rfl rfl ?c1 ?c2 ?c3 ?c4 ?c5 ?_)
 case c1=>exact Q2a _ _ _ _ rfl _ rfl
 case c2=>intro u hu;simp at hu;subst hu;rfl
 case c3=>unfold maxLen;omega
 case c4=>omega
 case c5=>have:=KK.out.size;simp;omega
 intro v' w6 Hg Hd _
 have K4:=(jR.out.alloc (.cells #[.string s] 9)).grown Hd (QFa (World.ownsRow.alloc fI.out (.cells #[.string s] 9)) (jR.out.alloc (.cells #[.string s] 9)) (by decide))
 have cZ:=(KN.out.alloc (.cells #[.string s] 9)).grown Hd (QFa (World.ownsRow.alloc fI.out (.cells #[.string s] 9)) (KN.out.alloc (.cells #[.string s] 9)) (by decide))
 have Ki:Qaa (fun i=>i=rb∨(Value.slice (some ⟨og,0,none⟩) (op.length+1) oc).ownBlock=some i) w w6:=((Qaa.of_fresh KK.out (fun i=>i=rb∨(Value.slice (some ⟨og,0,none⟩) (op.length+1) oc).ownBlock=some i)).alloc _).grown Hd (fun i e=>.inr (.inr e))
 have mM:=hid Hg
 have KX:=hid K4
 have bj:=hid cZ
 have jP:=hid Ki
 clear Hg Hd K4 cZ Ki r0 rf0 rl
 obtain⟨va2,vc2,hv⟩:=Qea mM.out
 subst hv
 have r0:=KX.out.cell 0
 have rf0:=KX.out.free 0
 have rl:=KX.out.lt
 have z0:=bj.out.cell 0
 have z1:=bj.out.cell 1
 have z2:=bj.out.cell 2
 have z3:=bj.out.cell 3
 have zf0:=bj.out.free 0
 have zf1:=bj.out.free 1
 have zf2:=bj.out.free 2
 have zf3:=bj.out.free 3
 have zl:=bj.out.lt
 go_wp2_with fail
 obtain⟨q1,q2,q3,q4⟩:=Q9h (w:=w) (.int .i64 1) (.string s) (.string ⟨#[]⟩) (.string ⟨#[]⟩) (KX.out.set 0 (.slice va2 (op.length+1+1) vc2)) (bj.out.other ⟨rb,0,none⟩ (.slice va2 (op.length+1+1) vc2) (fun e=>hrb e.symm)) hrb (by omega) (jP.out.setCell (p:=⟨rb,0,none⟩) (.inr (.inl rfl)) _)
 have f0:=q2.cell 0
 have f1:=q2.cell 1
 have f2:=q2.cell 2
 have f3:=q2.cell 3
 have Ho:(op++[p,s]).map Value.string=QHc (op++[p])++[.string s]:=by simp[QHc]
 exact bodyPost_ret (v:=.tuple #[.agg #[.int .i64 1,.string s,.string ⟨#[]⟩,.string ⟨#[]⟩],.bool true,.int .i64 0]) (by simp[results,Tryz.results86,go_sem,f0,f1,f2,f3]) rfl ⟨_,rfl,q1,by unfold QHc at Ho ⊢;rw[Ho];exact Qca (Qca mM.out ((Qaa.refl (· = rb) w6).setCell (p:=⟨rb,0,none⟩) (.inr rfl) _) (fun g hg e=>QFa mM.out KX.out (by decide) (by rw[hg,e]))) q4 (fun g hg e=>QFa mM.out bj.out (by decide) (by rw[hg,e])),q3⟩
end Go.Proofs.YtgaboghigefgbaaGreatDoor
