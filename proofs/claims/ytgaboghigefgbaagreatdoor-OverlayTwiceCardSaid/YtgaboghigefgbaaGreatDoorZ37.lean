/- Contracts of package walk: Tree. -/
import Derived.Test.YtgaboghigefgbaaGreatDoorZ36
import Derived.Deep.DeepCutAuto
import Derived.Deep.CutBlock
import Derived.Laws.EntriesVeiled
set_option linter.all false
set_option maxHeartbeats 8000000
namespace Go.Proofs.YtgaboghigefgbaaGreatDoor
open Go.Lib (hid)
open Go.RowKit
theorem Qkr:(Tryz.prog.info? 22).map (fun i=>(i.zero,i.size,i.bytes))=some (some (.slice none 0 0),1,24):=by kernel_rfl
theorem QEp(n:Nat)(hn:n≤1000)(wx:World):(Instr.makeSlice 108 (.int .i64 n) (.int .i64 n)).run Tryz.prog wx = .ok (.slice (some ⟨wx.heap.size,0,none⟩) n n) (wx.alloc (.cells (Array.replicate n (.slice none 0 0)) 22)):=by
 obtain⟨i0,hi,H4,Hp,gj⟩:=info_parts Qkr
 have:=run_make (P:=Tryz.prog) wx 108 22 i0 _ Tryz.underlying108 hi H4 .i64 .i64 n n (by omega) (by omega) (by rw[gj];omega) (by omega)
 rw[this,Hp,show(Value.slice none 0 0).cells=#[.slice none 0 0]from rfl]
 simp[Qle]
def QCe(L:List Qba)(p k:Nat):List Nat:=(List.range k).filter fun c=>decide (0<c) && decide (QTa L c=(p:Int))
theorem Qzp{L:List Qba}{p k:Nat}(h0:0<k)(h:QTa L k=(p:Int)):QCe L p (k+1)=QCe L p k++[k]:=by
 unfold QCe;rw[List.range_succ,List.filter_append];simp[h0,h]
theorem QUm{L:List Qba}{p k:Nat}(h:¬(0<k∧QTa L k=(p:Int))):QCe L p (k+1)=QCe L p k:=by
 unfold QCe;rw[List.range_succ,List.filter_append]
 have:(decide (0<k) && decide (QTa L k=(p:Int)))=false:=by simpa using h
 simp[this]
theorem Qyp(L:List Qba)(p k:Nat):(QCe L p k).length≤k:=by
 have:=List.length_filter_le (fun c=>decide (0<c) && decide (QTa L c=(p:Int))) (List.range k)
 unfold QCe;simpa using this
theorem Qpr(L:List Qba):KOk L (fun p=>QCe L p L.length):=by
 intro p hp
 have hk:=Q1d L p L.length
 refine Que (List.nodup_range.filter _) ?_ (fun v=>?_)
 ·exact hk.2.imp (fun {a b} MW e=>by subst e;exact Q9c _ MW)
 ·rw[QQc];simp[QCe]
def CsD(cs:Array Value)(n:Nat)(w:World):Prop:=cs.size=n∧(∀p q,p<n→q<n→p≠q→∀g,(cs.getD p undef).ownBlock=some g→(cs.getD q undef).ownBlock≠some g)∧∀p g,p<n→(cs.getD p undef).ownBlock=some g→g<w.heap.size
def Qhu(L:List Qba)(base:Nat)(lv:Value)(k:Nat)(W w:World):Prop:=
 Holds w base #[lv] 25∧Qpa (fun g=>g<base) w lv L∧Holds w (base+1) #[.slice none 0 0] 27∧Holds w (base+1+1) #[.slice none 0 0] 22∧Holds w (base+1+1+1+1) #[.slice (some ⟨base+1+1+1,0,none⟩) L.length L.length] 108∧
  (∃cs,Holds w (base+1+1+1) cs 22∧CsD cs L.length w∧Qol base cs L.length (fun p=>QCe L p k) w)∧Below base W w
set_option maxRecDepth 100000 in
theorem Qaj(R:Nat→Prop)(v:Value)(L:List Qba)(w:World)(hL:Qpa R w v L)(hS:Q2c L)(hD:Dis L)(hn:L.length≤1000)(gU:∀n∈L,n.props.length≤1000) :
 Calls Tryz.prog 38 #[v] w fun e w'=>∃tv gP l,e = .returned (.tuple #[.agg #[tv],.slice (some ⟨gP,0,none⟩) L.length L.length])∧QUc w' w.heap.size tv (Qoa L)∧w.heap.size≤gP∧Holds w' gP (QFd l) 3∧l.length=L.length∧(∀q (h:q<(Qab L).length),l.getD (Qab L)[q] 0=q)∧Below w.heap.size w w':=by
 obtain⟨a,cap,rfl,gM,gB⟩:=hL.shape
 have HL:=hid hL;clear hL
 have iD:=fun wx=>QEp L.length hn wx
 have hmi:=fun wx=>QBk L.length hn wx
 go_enter Tryz.func38,Tryz.ntmps38
 go_upto_region 3 with fail
 have He:Below w.heap.size w (((((w.alloc (.cells #[.slice a L.length cap] 25)).alloc (.cells #[.slice none 0 0] 27)).alloc (.cells #[.slice none 0 0] 22)).alloc (.cells (Array.replicate L.length (.slice none 0 0)) 22)).alloc (.cells #[.slice (some ⟨w.heap.size+1+1+1,0,none⟩) L.length L.length] 108)):=
  (((((Below.refl _ _).alloc (Nat.le_refl _) _).alloc (by simp) _).alloc (by simp;omega) _).alloc (by simp;omega) _).alloc (by simp;omega) _
 have My:Qhu L w.heap.size (.slice a L.length cap) 0 w (((((w.alloc (.cells #[.slice a L.length cap] 25)).alloc (.cells #[.slice none 0 0] 27)).alloc (.cells #[.slice none 0 0] 22)).alloc (.cells (Array.replicate L.length (.slice none 0 0)) 22)).alloc (.cells #[.slice (some ⟨w.heap.size+1+1+1,0,none⟩) L.length L.length] 108)):=by
  have hg:∀p,p<L.length→(Array.replicate L.length (Value.slice none 0 0)).getD p undef = .slice none 0 0:=fun p hp=>by simp[Array.getD_eq_getD_getElem?,hp]
  refine⟨((((Holds.new w _ _).alloc _).alloc _).alloc _).alloc _,HL.out.bound.new He,(((Holds.newAt (w:=w.alloc _) (by simp) _ _).alloc _).alloc _).alloc _,((Holds.newAt (w:=(w.alloc _).alloc _) (by simp) _ _).alloc _).alloc _,Holds.newAt (w:=(((w.alloc _).alloc _).alloc _).alloc _) (by simp) _ _,⟨_,(Holds.newAt (w:=((w.alloc _).alloc _).alloc _) (by simp) _ _).alloc _,⟨by simp,fun p q hp hq Hm g e=>?_,fun p g hp e=>?_⟩,fun p hp=>?_⟩,He⟩
  ·rw[hg p hp]at e;cases e
  ·rw[hg p hp]at e;cases e
  ·rw[hg p hp];exact World.ownsRow_nil _ _ _ _
 have gi:w.heap.size=w.heap.size:=rfl
 clear iD He
 generalize Gs:w.heap.size=base at *
 go_loopg [13] L.length (fun f x wr=>∃k:Nat,x = .int .i64 k∧k≤L.length∧L.length≤k+f∧Qhu L base (.slice a L.length cap) k w wr)
 case atStart=>exact⟨0,rfl,by omega,by omega,My⟩
 case round=>
  clear My
  obtain⟨k,rfl,hk,hf,cW,ay,hZ,J1,fT,⟨cs,fU,bq,dQ⟩,hb⟩:=hrel
  have H3:base≤wr.heap.size:=by have:=hb.size;omega
  by_cases Hh:k<L.length
  ·have td:(k:Int)<L.length:=by omega
   obtain⟨g,o,pa,pc,rfl,hg,c0,c1,c2,-,-,-,-,-,-⟩:=ay.at k Hh
   have Mi:Below wr.heap.size wr (wr.alloc (.cells #[.int .i64 L[k].parent,.string L[k].name,.slice pa L[k].props.length pc] 46)):=(Below.refl _ _).alloc (Nat.le_refl _) _
   have kn:=Qaa.of_fresh Mi (fun _=>False)
   have Hc:=hb.alloc (o:=.cells #[.int .i64 L[k].parent,.string L[k].name,.slice pa L[k].props.length pc] 46) H3
   have jV:CsD cs L.length (wr.alloc (.cells #[.int .i64 L[k].parent,.string L[k].name,.slice pa L[k].props.length pc] 46)):=⟨bq.1,bq.2.1,fun p q hp e=>by have:=bq.2.2 p q hp e;simp;omega⟩
   have bu:=dQ.keeps kn (fun _ _ _ _ e=>e)
   by_cases GF:k=0
   ·have hkz:¬(k:Int) > 0:=by omega
    have Hn:Qhu L base (.slice (some ⟨g,o,none⟩) L.length cap) (k+1) w (wr.alloc (.cells #[.int .i64 L[k].parent,.string L[k].name,.slice pa L[k].props.length pc] 46)):=
     ⟨cW.alloc _,ay.new Mi,hZ.alloc _,J1.alloc _,fT.alloc _,⟨cs,fU.alloc _,jV,fun p hp=>by
      dsimp only
      rw[QUm (by omega)];exact bu p hp⟩,Hc⟩
    have HF:=hid Hn
    have zX:=hid GF
    clear Hn cW ay hZ J1 fT fU bq dQ jV bu kn GF
    go_wp2_with fail
    go_roundg (L.length-k-1)
    case measure=>omega
    case rel=>exact⟨k+1,by go_num,by omega,by omega,HF.out⟩
   ·have gz:(k:Int) > 0:=by omega
    obtain⟨ME,aI⟩:=hS.2.1 k (by omega) Hh
    have mR:=ME
    rw[Qsa Hh]at ME aI
    generalize GP:L[k].parent=par at *
    obtain⟨p,rfl⟩:=Int.eq_ofNat_of_zero_le ME
    have qy:=hid (show QTa L k=(p:Int)from by rw[Qsa Hh];exact GP)
    have MF:p<L.length:=by omega
    have Ho:=bu p MF
    have Kn:cs[p]? = some (cs.getD p undef):=by simp[Array.getD_eq_getD_getElem?,bq.1,MF]
    have kH:=Qyp L p k
    have JY:=cW.alloc (.cells #[.int .i64 (p:Int),.string L[k].name,.slice pa L[k].props.length pc] 46)
    have Hw:=hZ.alloc (.cells #[.int .i64 (p:Int),.string L[k].name,.slice pa L[k].props.length pc] 46)
    have dV:=J1.alloc (.cells #[.int .i64 (p:Int),.string L[k].name,.slice pa L[k].props.length pc] 46)
    have JV:=fT.alloc (.cells #[.int .i64 (p:Int),.string L[k].name,.slice pa L[k].props.length pc] 46)
    have JW:=fU.alloc (.cells #[.int .i64 (p:Int),.string L[k].name,.slice pa L[k].props.length pc] 46)
    have dS:=ay.new Mi
    have CN:=Holds.new wr #[.int .i64 (p:Int),.string L[k].name,.slice pa L[k].props.length pc] 46
    have lH:∀q b,q<L.length→(cs.getD q undef).ownBlock=some b→b<wr.heap.size:=bq.2.2
    clear GP mR bq dQ cW hZ J1 fT fU ay
    go_wp2_with fail
    refine wp_region_any (by kernel_rfl) ?_
    refine Q5a (ops':=Qwf 6) (by kernel_rfl) ?_
    refine QSl base (base+1+1+1+1) wr.heap.size (base+1+1+1) L.length p k wr.heap.size L[k].name (.slice pa L[k].props.length pc) (cs.getD p undef) cs (QCe L p k) (wr.alloc (.cells #[.int .i64 (p:Int),.string L[k].name,.slice pa L[k].props.length pc] 46)) _ _ rfl MF (by omega) (by simp) Kn rfl rfl rfl ?_ (by exact JW) (by exact Qhb Ho (Below.refl _ _).drew) ?_
    ·exact⟨JV,CN,(Qaa.refl _ _).drew,by simp;omega⟩
    intro c w2 g' c' Ga gh Hz K0 Gp
    obtain⟨x20,x21,x22,x23,x24,x25,x26,x27,x28,x29,x30,x31,hc⟩:=Ga.ex [20,21,22,23,24,25,26,27,28,29,30,31] (by kernel_rfl)
    subst hc
    simp only[List.setIfInBounds_toArray,List.set_cons_zero,List.set_cons_succ]
    have kS:=gh.2.2.1
    have Hm:∀{b:Nat} {ys:Array Value} {t:TypeId},Holds (wr.alloc (.cells #[.int .i64 (p:Int),.string L[k].name,.slice pa L[k].props.length pc] 46)) b ys t→(t≠22∨b≠base+1+1+1)→t≠3→¬(b=base+1+1+1∨(cs.getD p undef).ownBlock=some b):=by
     intro b ys t hb h1 h2 e
     rcases e with rfl|e
     ·rcases h1 with h1|h1
      ·exact Q8a hb JW h1 rfl
      ·exact h1 rfl
     ·obtain⟨_,cur,q⟩:=Qnb Ho e
      exact Q8a hb q h2 rfl
    have pL:=(Ho.lt)
    have aF:∀q,q<L.length→(cs.setIfInBounds p (.slice (some ⟨g',0,none⟩) ((QCe L p k).length+1) c')).getD q undef=if q=p then .slice (some ⟨g',0,none⟩) ((QCe L p k).length+1) c' else cs.getD q undef:=by
     intro q hq
     by_cases e:q=p
     ·subst e;simp[Array.getD_eq_getD_getElem?,jV.1,hq]
     ·rw[if_neg e];simp[Array.getD_eq_getD_getElem?,Array.getElem?_setIfInBounds_ne (Ne.symm e)]
    have hsz2:wr.heap.size<w2.heap.size:=by have:=kS.size;simp at this;omega
    have jj:g'<w2.heap.size:=(K0.lt g' rfl).2
    have eO:∀q,q<L.length→q≠p→∀b,(cs.getD q undef).ownBlock=some b→b≠g':=by
     intro q hq Di b hb e
     subst e
     rcases Gp with h|h
     ·exact jV.2.1 q p hq MF Di b hb h
     ·exact absurd (lH q b hq hb) (by omega)
    have qZ:CsD (cs.setIfInBounds p (.slice (some ⟨g',0,none⟩) ((QCe L p k).length+1) c')) L.length w2:=by
     refine⟨by simpa using jV.1,?_,?_⟩
     ·intro q r hq hr vt b e e2
      rw[aF q hq]at e
      rw[aF r hr]at e2
      by_cases h1:q=p
      ·rw[if_pos h1]at e
       have:g'=b:=Option.some.inj e
       subst this
       rw[if_neg (fun h=>vt (by rw[h1,h]))]at e2
       exact eO r hr (fun h=>vt (by rw[h1,h])) _ e2 rfl
      ·rw[if_neg h1]at e
       by_cases h2:r=p
       ·rw[if_pos h2]at e2
        have:g'=b:=Option.some.inj e2
        subst this
        exact eO q hq h1 _ e rfl
       ·rw[if_neg h2]at e2
        exact jV.2.1 q r hq hr vt b e e2
     ·intro q b hq e
      rw[aF q hq]at e
      by_cases h1:q=p
      ·rw[if_pos h1]at e
       have:g'=b:=Option.some.inj e
       omega
      ·rw[if_neg h1]at e
       have:=lH q b hq e
       omega
    have rj:Qol base (cs.setIfInBounds p (.slice (some ⟨g',0,none⟩) ((QCe L p k).length+1) c')) L.length (fun p=>QCe L p (k+1)) w2:=by
     intro q hq
     dsimp only
     rw[aF q hq]
     by_cases h1:q=p
     ·subst h1
      rw[if_pos rfl,Qzp (by omega) qy.out,List.length_append,List.length_singleton]
      exact K0
     ·rw[if_neg h1,QUm (fun h=>h1 (by have:=qy.out.symm.trans h.2;omega))]
      refine Qca (bu q hq) kS (fun b hb e=>?_)
      rcases e with e|e
      ·obtain⟨_,cur,q2⟩:=Qnb (bu q hq) hb
       subst e
       exact Q8a q2 JW (by decide) rfl
      ·exact jV.2.1 q p hq MF h1 b hb e
    have Hi:Below base w w2:=Hc.trans (kS.below (by simp;omega) (fun b hb e=>by
     rcases e with e|e
     ·omega
     ·have:=(Qnb Ho e).1;omega))
    have Hn:Qhu L base (.slice (some ⟨g,o,none⟩) L.length cap) (k+1) w w2:=
     ⟨JY.keeps kS (Hm JY (.inl (by decide)) (by decide)),dS.keeps kS (fun b hb e=>by
      rcases e with e|e
      ·omega
      ·have:=(Qnb Ho e).1;omega),Hw.keeps kS (Hm Hw (.inl (by decide)) (by decide)),dV.keeps kS (Hm dV (.inr (by omega)) (by decide)),JV.keeps kS (Hm JV (.inl (by decide)) (by decide)),⟨_,Hz,qZ,rj⟩,Hi⟩
    have HF:=hid Hn
    clear Hn Ga gh Hz K0 Gp kS Hm aF eO qZ rj Hi Kn lH pL
    go_wp2_with fail
    go_roundg (L.length-k-1)
    case measure=>omega
    case rel=>exact⟨k+1,by go_num,by omega,by omega,HF.out⟩
  ·have x0:=cW.cell 0
   have y0:=J1.cell 0
   have yf:=J1.free 0
   have yl:=J1.lt
   have xl:=cW.lt
   have hV:=Holds.newAt (w:=(wr.setCell ⟨base+1+1,0,none⟩ (.slice (some ⟨wr.heap.size,0,none⟩) L.length L.length)).alloc (.cells (Array.replicate L.length (.int .i64 0)) 3)) (B:=wr.heap.size+1) (by simp) #[.nilFunc] 109
   have v0:=hV.cell 0
   have vf:=hV.free 0
   have yA:k=L.length:=by omega
   subst yA
   have ka:Qaa (· = base+1+1) wr (wr.setCell ⟨base+1+1,0,none⟩ (.slice (some ⟨wr.heap.size,0,none⟩) L.length L.length)):=(Qaa.refl (· = base+1+1) wr).setCell (p:=⟨base+1+1,0,none⟩) (Or.inr rfl) _
   have Hc:Below wr.heap.size wr ((wr.alloc (.cells (Array.replicate L.length (.int .i64 0)) 3)).alloc (.cells #[fnV (base+1) (base+1+1) base (base+1+1+1+1) (wr.heap.size+1)] 109)):=((Below.refl _ _).alloc (Nat.le_refl _) _).alloc (by simp) _
   have rz:Qyt L base (base+1) (base+1+1) base (base+1+1+1+1) (wr.heap.size+1) wr.heap.size (base+1+1+1) (.slice a L.length cap) cs [] (fun p=>QCe L p L.length)
    (((wr.setCell ⟨base+1+1,0,none⟩ (.slice (some ⟨wr.heap.size,0,none⟩) L.length L.length)).alloc (.cells (Array.replicate L.length (.int .i64 0)) 3)).alloc (.cells #[fnV (base+1) (base+1+1) base (base+1+1+1+1) (wr.heap.size+1)] 109)):=by
    have Bg:Below (wr.setCell ⟨base+1+1,0,none⟩ (.slice (some ⟨wr.heap.size,0,none⟩) L.length L.length)).heap.size (wr.setCell ⟨base+1+1,0,none⟩ (.slice (some ⟨wr.heap.size,0,none⟩) L.length L.length)) (((wr.setCell ⟨base+1+1,0,none⟩ (.slice (some ⟨wr.heap.size,0,none⟩) L.length L.length)).alloc (.cells (Array.replicate L.length (.int .i64 0)) 3)).alloc (.cells #[fnV (base+1) (base+1+1) base (base+1+1+1+1) (wr.heap.size+1)] 109)):=((Below.refl _ _).alloc (Nat.le_refl _) _).alloc (by simp) _
    have fe:QFd (List.replicate L.length 0)=Array.replicate L.length (.int .i64 0):=by simp[QFd,Qna]
    refine⟨⟨by simp;omega,((cW.keeps ka (by omega)).alloc _).alloc _,(ay.keeps ka (fun q hq e=>by omega)).new Bg,((J1.set 0 _).alloc _).alloc _,((fT.keeps ka (by omega)).alloc _).alloc _,((fU.keeps ka (by omega)).alloc _).alloc _,Holds.newAt (w:=(wr.setCell ⟨base+1+1,0,none⟩ (.slice (some ⟨wr.heap.size,0,none⟩) L.length L.length)).alloc _) (by simp) _ _⟩,⟨_,((hZ.keeps ka (by omega)).alloc _).alloc _,QUc.nil _ _⟩,⟨List.replicate L.length 0,by simp,?_,fun q hq=>absurd hq (Nat.not_lt_zero q)⟩,?_⟩
    ·rw[fe];exact(Holds.newAt (w:=wr.setCell ⟨base+1+1,0,none⟩ (.slice (some ⟨wr.heap.size,0,none⟩) L.length L.length)) (by simp) _ _).alloc _
    ·exact(dQ.keeps ka (fun p q hp e e2=>by
      subst e2
      obtain⟨_,cur,q2⟩:=Qnb (dQ p hp) e
      exact Q8a q2 J1 (by decide) rfl)).keeps (Qaa.of_fresh Bg (fun _=>False)) (fun _ _ _ _ e=>e)
   have rS:QJu cs L.length wr.heap.size:=⟨bq.1,bq.2.1,fun p q hp e h=>by have:=bq.2.2 p q hp e;omega⟩
   have oe:=QGo L base (base+1) (base+1+1) base (base+1+1+1+1) (wr.heap.size+1) wr.heap.size (base+1+1+1) (.slice a L.length cap) cs hS hD hn gU rS (by omega) (by omega) L.length 0 [] [] (-1) _ _ hS.1 (by omega) (by simp[Qab]) (by unfold Q4b;rw[if_pos rfl];exact hS.2.2.symm) (Qpr L) rz
   have mB:Below base w (((wr.setCell ⟨base+1+1,0,none⟩ (.slice (some ⟨wr.heap.size,0,none⟩) L.length L.length)).alloc (.cells (Array.replicate L.length (.int .i64 0)) 3)).alloc (.cells #[fnV (base+1) (base+1+1) base (base+1+1+1+1) (wr.heap.size+1)] 109)):=((hb.setCell (p:=⟨base+1+1,0,none⟩) (by simp;omega) _).alloc (by simp;omega) _).alloc (by simp;omega) _
   rw[List.nil_append]at oe
   have qJ:=hid oe
   clear oe rz Hc ka rS
   go_wp2_with fail
   refine qJ.out.mono ?_
   rintro e w5 ⟨rfl,K',-,-,l5,H9⟩
   obtain⟨⟨xO,-,-,bz,-,-,-⟩,⟨tv,gK,jF⟩,⟨l,GO,Ge,sQ⟩,-⟩:=l5
   have gG:=mB.trans H9
   obtain⟨ta,tc,rfl⟩:=QNc jF.row
   have z0:=gK.cell 0
   have zf:=gK.free 0
   have p0:=bz.cell 0
   have pf:=bz.free 0
   have Ce:=hid sQ
   have Cd:=hid GO
   clear qJ mB H9 x0 y0 yf yl xl v0 vf hV hb cW ay hZ J1 fT fU dQ bq sQ GO
   have cZ:=(((gK.set 0 (.slice ta ((QYa L L.length 0).map (Q4b L)).length tc)).other ⟨base+1+1,0,none⟩ (.slice (some ⟨wr.heap.size,0,none⟩) L.length L.length) (by show base+1≠base+1+1;omega)).drew).cell 0
   have A5:=(((bz.other ⟨base+1,0,none⟩ (.slice ta ((QYa L L.length 0).map (Q4b L)).length tc) (by show base+1+1≠base+1;omega)).set 0 (.slice (some ⟨wr.heap.size,0,none⟩) L.length L.length)).drew).cell 0
   have kz:Qaa (fun b=>b=base+1∨b=base+1+1) w5 ((w5.setCell ⟨base+1,0,none⟩ (.slice ta ((QYa L L.length 0).map (Q4b L)).length tc)).setCell ⟨base+1+1,0,none⟩ (.slice (some ⟨wr.heap.size,0,none⟩) L.length L.length)).drew:=
    (((Qaa.refl _ w5).setCell (p:=⟨base+1,0,none⟩) (Or.inr (Or.inl rfl)) _).setCell (p:=⟨base+1+1,0,none⟩) (Or.inr (Or.inr rfl)) _).drew
   have jG:=jF.keeps kz (fun b e=>by
    rcases e with rfl|rfl
    ·exact Or.inr ⟨_,_,gK,by decide,by decide⟩
    ·exact Or.inr ⟨_,_,bz,by decide,by decide⟩)
   have pK:=Ge.keeps kz (fun e=>by
    rcases e with e|e
    ·exact Q8a Ge gK (by decide) e
    ·exact Q8a Ge bz (by decide) e)
   have gZ:=gG.trans (kz.below xO (fun b hb e=>by omega))
   have pD:base≤wr.heap.size:=H3
   simp only[List.length_map]at cZ A5 jG pK gZ
   have HF:=hid (And.intro jG (And.intro pK gZ))
   clear jG pK gZ kz jF Ge gG
   go_wp2_with fail
   go_region
   all_goals go_wp2_with fail
   all_goals exact bodyPost_ret (v:=.tuple #[.agg #[.slice ta (QYa L L.length 0).length tc],.slice (some ⟨wr.heap.size,0,none⟩) L.length L.length]) (by simp[results,Tryz.results38,go_sem,cZ,A5]) rfl ⟨_,_,l,rfl,by rw[Gs];exact HF.out.1,by rw[Gs];exact pD,HF.out.2.1,Cd.out,Ce.out,by rw[Gs];exact HF.out.2.2⟩
theorem Qhl(R:Nat→Prop)(v:Value)(L:List Qba)(w:World)(hL:Qpa R w v L)(hS:Q2c L)(hD:Dis L)(hn:L.length≤1000)(gU:∀n∈L,n.props.length≤1000) :
 Calls Tryz.prog 38 #[v] w fun e w'=>∃tv gP l,e = .returned (.tuple #[.agg #[tv],.slice (some ⟨gP,0,none⟩) L.length L.length])∧Qda w' w.heap.size tv (Qoa L)∧w.heap.size≤gP∧Holds w' gP (QFd l) 3∧l.length=L.length∧(∀q (h:q<(Qab L).length),l.getD (Qab L)[q] 0=q)∧Below w.heap.size w w':=
 (Qaj R v L w hL hS hD hn gU).mono fun _ _ ⟨tv,gP,l,h1,h2,h3⟩=>⟨tv,gP,l,h1,h2.row,h3⟩
end Go.Proofs.YtgaboghigefgbaaGreatDoor
