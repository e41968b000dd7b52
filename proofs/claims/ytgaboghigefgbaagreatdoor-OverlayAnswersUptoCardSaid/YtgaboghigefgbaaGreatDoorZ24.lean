/- Lemmas on the way to the law; no conditions. -/
import Derived.Test.YtgaboghigefgbaaGreatDoorZ23
import Derived.Laws.EntriesVeiled
set_option linter.all false
set_option maxRecDepth 100000
set_option maxHeartbeats 8000000
namespace Go.Proofs.YtgaboghigefgbaaGreatDoor
open Go.Proofs.Tryz
open Go.Lib (hid)
open Go.RowKit
theorem QSr:(prog.info? 22).map (fun i=>(i.zero,i.size,i.bytes))=some (some (.slice none 0 0),1,24):=by kernel_rfl
theorem QWp(n:Nat)(hn:n≤1000)(wx:World):(Instr.makeSlice 108 (.int .i64 n) (.int .i64 n)).run prog wx=.ok (.slice (some ⟨wx.heap.size,0,none⟩) n n) (wx.alloc (.cells (Array.replicate n (.slice none 0 0)) 22)):=by
 obtain⟨i0,hi,Hz,Ho,H4⟩:=info_parts QSr;have:=run_make (P:=prog) wx 108 22 i0 _ underlying108 hi Hz .i64 .i64 n n (by omega) (by omega) (by rw[H4];omega) (by omega);rw[this,Ho,show(Value.slice none 0 0).cells=#[.slice none 0 0]from rfl];simp[QWc]
def Qne(L:List Qba)(p k:Nat):List Nat:=(List.range k).filter fun c=>decide (0<c)&&decide (QWa L c=(p:Int))
theorem QPp{L:List Qba}{p k:Nat}(h0:0<k)(h:QWa L k=(p:Int)):Qne L p (k+1)=Qne L p k++[k]:=by
 unfold Qne;rw[List.range_succ,List.filter_append];simp[h0,h]
theorem Q4m{L:List Qba}{p k:Nat}(h:¬(0<k∧QWa L k=(p:Int))):Qne L p (k+1)=Qne L p k:=by
 unfold Qne;rw[List.range_succ,List.filter_append];have:(decide (0<k)&&decide (QWa L k=(p:Int)))=false:=by simpa using h
 simp[this]
theorem QOp(L:List Qba)(p k:Nat):(Qne L p k).length≤k:=by
 have:=List.length_filter_le (fun c=>decide (0<c)&&decide (QWa L c=(p:Int))) (List.range k);unfold Qne;simpa using this
theorem QWr(L:List Qba):KOk L (fun p=>Qne L p L.length):=by
 intro p hp;have hk:=QTd L p L.length;refine Qce (List.nodup_range.filter _) ?_ (fun v=>?_)
 ·exact hk.2.imp (fun {a b} KN e=>by subst e;exact Q4c _ KN)
 rw[QHc];simp[Qne]
def CsD(cs:Array Value)(n:Nat)(w:World):Prop:=cs.size=n∧(∀p q,p<n→q<n→p≠q→∀g,(cs.getD p undef).ownBlock=some g→(cs.getD q undef).ownBlock≠some g)∧∀p g,p<n→(cs.getD p undef).ownBlock=some g→g<w.heap.size
def Qqu(L:List Qba)(base:Nat)(lv:Value)(k:Nat)(W w:World):Prop:=
 Holds w base #[lv] 25∧Qoa (fun g=>g<base) w lv L∧Holds w (base+1) #[.slice none 0 0] 27∧Holds w (base+1+1) #[.slice none 0 0] 22∧Holds w (base+1+1+1+1) #[.slice (some ⟨base+1+1+1,0,none⟩) L.length L.length] 108∧
  (∃cs,Holds w (base+1+1+1) cs 22∧CsD cs L.length w∧Qyl base cs L.length (fun p=>Qne L p k) w)∧Below base W w
theorem Qgj(R:Nat→Prop)(v:Value)(L:List Qba)(w:World)(hL:Qoa R w v L)(hS:QUc L)(hD:Dis L)(hn:L.length≤1000)(gz:∀n∈L,n.props.length≤1000) :
 Calls prog 38 #[v] w fun e w'=>∃tv gP l,e=.returned (.tuple #[.agg #[tv],.slice (some ⟨gP,0,none⟩) L.length L.length])∧Qoc w' w.heap.size tv (Qta L)∧w.heap.size≤gP∧Holds w' gP (Qud l) 3∧l.length=L.length∧(∀q (h:q<(Qgb L).length),l.getD (Qgb L)[q] 0=q)∧Below w.heap.size w w':=by
 obtain⟨a,cap,rfl,gy,gh⟩:=hL.shape;have HL:=hid hL;clear hL;have bR:=fun wx=>QWp L.length hn wx;have hmi:=fun wx=>QMk L.length hn wx;go_enter func38,ntmps38;go_upto_region 3 with fail;have He:Below w.heap.size w (((((w.alloc (.cells #[.slice a L.length cap] 25)).alloc (.cells #[.slice none 0 0] 27)).alloc (.cells #[.slice none 0 0] 22)).alloc (.cells (Array.replicate L.length (.slice none 0 0)) 22)).alloc (.cells #[.slice (some ⟨w.heap.size+1+1+1,0,none⟩) L.length L.length] 108)):=
  ((((Bq).alloc (by simp) _).alloc (by simp;omega) _).alloc (by simp;omega) _).alloc (by simp;omega) _
 have Ki:Qqu L w.heap.size (.slice a L.length cap) 0 w (((((w.alloc (.cells #[.slice a L.length cap] 25)).alloc (.cells #[.slice none 0 0] 27)).alloc (.cells #[.slice none 0 0] 22)).alloc (.cells (Array.replicate L.length (.slice none 0 0)) 22)).alloc (.cells #[.slice (some ⟨w.heap.size+1+1+1,0,none⟩) L.length L.length] 108)):=by
  have hg:∀p,p<L.length→(Array.replicate L.length (Value.slice none 0 0)).getD p undef=.slice none 0 0:=fun p hp=>by simp[Array.getD_eq_getD_getElem?,hp]
  refine⟨((((Holds.new w _ _).alloc _).alloc _).alloc _).alloc _,HL.o.bound.new He,(((Holds.newAt (w:=w.alloc _) (by simp) _ _).alloc _).alloc _).alloc _,((Holds.newAt (w:=(w.alloc _).alloc _) (by simp) _ _).alloc _).alloc _,Holds.newAt (w:=(((w.alloc _).alloc _).alloc _).alloc _) (by simp) _ _,⟨_,(Holds.newAt (w:=((w.alloc _).alloc _).alloc _) (by simp) _ _).alloc _,⟨by simp,fun p q hp hq Hl g e=>?_,fun p g hp e=>?_⟩,fun p hp=>?_⟩,He⟩
  ·rw[hg p hp]at e;cases e
  ·rw[hg p hp]at e;cases e
  rw[hg p hp];exact World.ownsRow_nil _ _ _ _
 have gx:w.heap.size=w.heap.size:=rfl;clear bR He;generalize G0:w.heap.size=base at *
 go_loopg [13] L.length (fun f x wr=>∃k:Nat,x=.int .i64 k∧k≤L.length∧L.length≤k+f∧Qqu L base (.slice a L.length cap) k w wr)
 case atStart=>exact⟨0,rfl,by omega,by omega,Ki⟩
 case round=>
  clear Ki;obtain⟨k,rfl,hk,hf,bG,Jy,hZ,Jd,dY,⟨cs,dZ,J6,cJ⟩,hb⟩:=hrel;have Hy:base≤wr.heap.size:=by have:=hb.size;omega
  by_cases Hh:k<L.length
  ·have dC:(k:Int)<L.length:=by omega
   obtain⟨g,o,pa,pc,rfl,hg,c0,c1,c2,-,-,-,-,-,-⟩:=Jy.at k Hh;have mR:Below wr.heap.size wr (wr.alloc (.cells #[.int .i64 L[k].parent,.string L[k].name,.slice pa L[k].props.length pc] 46)):=Bq;have kn:=Qaa.of_fresh mR (fun _=>False);have Hc:=hb.alloc (o:=.cells #[.int .i64 L[k].parent,.string L[k].name,.slice pa L[k].props.length pc] 46) Hy;have jk:CsD cs L.length (wr.alloc (.cells #[.int .i64 L[k].parent,.string L[k].name,.slice pa L[k].props.length pc] 46)):=⟨J6.1,J6.2.1,fun p q hp e=>by have:=J6.2.2 p q hp e;simp;omega⟩;have ae:=cJ.keeps kn (fun _ _ _ _ e=>e);by_cases GN:k=0
   ·have hkz:¬(k:Int) > 0:=by omega
    have Hp:Qqu L base (.slice (some ⟨g,o,none⟩) L.length cap) (k+1) w (wr.alloc (.cells #[.int .i64 L[k].parent,.string L[k].name,.slice pa L[k].props.length pc] 46)):=
     ⟨bG.alloc _,Jy.new mR,hZ.alloc _,Jd.alloc _,dY.alloc _,⟨cs,dZ.alloc _,jk,fun p hp=>by
      dsimp only
      rw[Q4m (by omega)];exact ae p hp⟩,Hc⟩
    have HF:=hid Hp;have wi:=hid GN;clear Hp bG Jy hZ Jd dY dZ J6 cJ jk ae kn GN;go_wp2_with fail;go_roundg (L.length-k-1)
    case measure=>omega
    case rel=>exact⟨k+1,by go_num,by omega,by omega,HF.o⟩
   have Ga:(k:Int) > 0:=by omega
   obtain⟨KH,bU⟩:=hS.2.1 k (by omega) Hh;have mC:=KH;rw[Qxa Hh]at KH bU;generalize GC:L[k].parent=par at *
   obtain⟨p,rfl⟩:=Int.eq_ofNat_of_zero_le KH;have nr:=hid (show QWa L k=(p:Int)from by rw[Qxa Hh];exact GC);have mD:p<L.length:=by omega
   have Hn:=ae p mD;have kU:cs[p]? = some (cs.getD p undef):=by simp[Array.getD_eq_getD_getElem?,J6.1,mD]
   have kX:=QOp L p k;have Jb:=bG.alloc (.cells #[.int .i64 (p:Int),.string L[k].name,.slice pa L[k].props.length pc] 46);have Hx:=hZ.alloc (.cells #[.int .i64 (p:Int),.string L[k].name,.slice pa L[k].props.length pc] 46);have cQ:=Jd.alloc (.cells #[.int .i64 (p:Int),.string L[k].name,.slice pa L[k].props.length pc] 46);have j9:=dY.alloc (.cells #[.int .i64 (p:Int),.string L[k].name,.slice pa L[k].props.length pc] 46);have Ja:=dZ.alloc (.cells #[.int .i64 (p:Int),.string L[k].name,.slice pa L[k].props.length pc] 46);have cM:=Jy.new mR;have zS:=Holds.new wr #[.int .i64 (p:Int),.string L[k].name,.slice pa L[k].props.length pc] 46;have fH:∀q b,q<L.length→(cs.getD q undef).ownBlock=some b→b<wr.heap.size:=J6.2.2;clear GC mC J6 cJ bG hZ Jd dY dZ Jy;go_wp2_with fail;refine wp_region_any (by kernel_rfl) ?_;refine QUa (ops':=Qqf 6) (by kernel_rfl) ?_;refine Q1l base (base+1+1+1+1) wr.heap.size (base+1+1+1) L.length p k wr.heap.size L[k].name (.slice pa L[k].props.length pc) (cs.getD p undef) cs (Qne L p k) (wr.alloc (.cells #[.int .i64 (p:Int),.string L[k].name,.slice pa L[k].props.length pc] 46)) _ _ rfl mD (by omega) (by simp) kU rfl rfl rfl ?_ (by exact Ja) (by exact Qbb Hn (Below.refl _ _).drew) ?_
   ·exact⟨j9,zS,(Qaa.refl _ _).drew,by simp;omega⟩
   intro c w2 g' c' gI HJ gf Jf gj;obtain⟨x20,x21,x22,x23,x24,x25,x26,x27,x28,x29,x30,x31,hc⟩:=gI.ex [20,21,22,23,24,25,26,27,28,29,30,31] (by kernel_rfl);subst hc;simp only[List.setIfInBounds_toArray,List.set_cons_zero,List.set_cons_succ];have kS:=HJ.2.2.1;have Hl:∀{b:Nat} {ys:Array Value} {t:TypeId},Holds (wr.alloc (.cells #[.int .i64 (p:Int),.string L[k].name,.slice pa L[k].props.length pc] 46)) b ys t→(t≠22∨b≠base+1+1+1)→t≠3→¬(b=base+1+1+1∨(cs.getD p undef).ownBlock=some b):=by
    intro b ys t hb h1 h2 e;rcases e with rfl|e
    ·rcases h1 with h1|h1
     ·exact QSa hb Ja h1 rfl
     exact h1 rfl
    obtain⟨_,cur,q⟩:=Qob Hn e;exact QSa hb q h2 rfl
   have lF:=(Hn.lt);have JH:∀q,q<L.length→(cs.setIfInBounds p (.slice (some ⟨g',0,none⟩) ((Qne L p k).length+1) c')).getD q undef=if q=p then .slice (some ⟨g',0,none⟩) ((Qne L p k).length+1) c' else cs.getD q undef:=by
    intro q hq;by_cases e:q=p
    ·subst e;simp[Array.getD_eq_getD_getElem?,jk.1,hq]
    rw[if_neg e];simp[Array.getD_eq_getD_getElem?,Array.getElem?_setIfInBounds_ne (Ne.symm e)]
   have hsz2:wr.heap.size<w2.heap.size:=by have:=kS.size;simp at this;omega
   have GG:g'<w2.heap.size:=(Jf.lt g' rfl).2;have aK:∀q,q<L.length→q≠p→∀b,(cs.getD q undef).ownBlock=some b→b≠g':=by
    intro q hq AC b hb e;subst e;rcases gj with h|h
    ·exact jk.2.1 q p hq mD AC b hb h
    exact absurd (fH q b hq hb) (by omega)
   have nS:CsD (cs.setIfInBounds p (.slice (some ⟨g',0,none⟩) ((Qne L p k).length+1) c')) L.length w2:=by
    refine⟨by simpa using jk.1,?_,?_⟩
    ·intro q r hq hr rx b e e2;rw[JH q hq]at e;rw[JH r hr]at e2;by_cases h1:q=p
     ·rw[if_pos h1]at e;have:g'=b:=Option.some.inj e;subst this;rw[if_neg (fun h=>rx (by rw[h1,h]))]at e2;exact aK r hr (fun h=>rx (by rw[h1,h])) _ e2 rfl
     rw[if_neg h1]at e;by_cases h2:r=p
     ·rw[if_pos h2]at e2;have:g'=b:=Option.some.inj e2;subst this;exact aK q hq h1 _ e rfl
     rw[if_neg h2]at e2;exact jk.2.1 q r hq hr rx b e e2
    intro q b hq e;rw[JH q hq]at e;by_cases h1:q=p
    ·rw[if_pos h1]at e;have:g'=b:=Option.some.inj e;omega
    rw[if_neg h1]at e;have:=fH q b hq e;omega
   have n7:Qyl base (cs.setIfInBounds p (.slice (some ⟨g',0,none⟩) ((Qne L p k).length+1) c')) L.length (fun p=>Qne L p (k+1)) w2:=by
    intro q hq
    dsimp only
    rw[JH q hq];by_cases h1:q=p
    ·subst h1;rw[if_pos rfl,QPp (by omega) nr.o,List.length_append,List.length_singleton];exact Jf
    rw[if_neg h1,Q4m (fun h=>h1 (by have:=nr.o.symm.trans h.2;omega))];refine Qca (ae q hq) kS (fun b hb e=>?_);rcases e with e|e
    ·obtain⟨_,cur,q2⟩:=Qob (ae q hq) hb;subst e;exact QSa q2 Ja (by decide) rfl
    exact jk.2.1 q p hq mD h1 b hb e
   have Hg:Below base w w2:=Hc.trans (kS.below (by simp;omega) (fun b hb e=>by
    rcases e with e|e
    ·omega
    have:=(Qob Hn e).1;omega))
   have Hp:Qqu L base (.slice (some ⟨g,o,none⟩) L.length cap) (k+1) w w2:=
    ⟨Jb.keeps kS (Hl Jb (.inl (by decide)) (by decide)),cM.keeps kS (fun b hb e=>by
     rcases e with e|e
     ·omega
     have:=(Qob Hn e).1;omega),Hx.keeps kS (Hl Hx (.inl (by decide)) (by decide)),cQ.keeps kS (Hl cQ (.inr (by omega)) (by decide)),j9.keeps kS (Hl j9 (.inl (by decide)) (by decide)),⟨_,gf,nS,n7⟩,Hg⟩
   have HF:=hid Hp;clear Hp gI HJ gf Jf gj kS Hl JH aK nS n7 Hg kU fH lF;go_wp2_with fail;go_roundg (L.length-k-1)
   case measure=>omega
   case rel=>exact⟨k+1,by go_num,by omega,by omega,HF.o⟩
  have x0:=bG.cell 0;have y0:=Jd.cell 0;have yf:=Jd.free 0;have yl:=Jd.lt;have xl:=bG.lt;have hV:=Holds.newAt (w:=(wr.setCell ⟨base+1+1,0,none⟩ (.slice (some ⟨wr.heap.size,0,none⟩) L.length L.length)).alloc (.cells (Array.replicate L.length (.int .i64 0)) 3)) (B:=wr.heap.size+1) (by simp) #[.nilFunc] 109;have v0:=hV.cell 0;have vf:=hV.free 0;have uL:k=L.length:=by omega
  subst uL;have ka:Qaa (· = base+1+1) wr (wr.setCell ⟨base+1+1,0,none⟩ (.slice (some ⟨wr.heap.size,0,none⟩) L.length L.length)):=(Qaa.refl (· = base+1+1) wr).setCell (p:=⟨base+1+1,0,none⟩) (Or.inr rfl) _;have Hc:Below wr.heap.size wr ((wr.alloc (.cells (Array.replicate L.length (.int .i64 0)) 3)).alloc (.cells #[fnV (base+1) (base+1+1) base (base+1+1+1+1) (wr.heap.size+1)] 109)):=(Bq).alloc (by simp) _
  have oz:QTt L base (base+1) (base+1+1) base (base+1+1+1+1) (wr.heap.size+1) wr.heap.size (base+1+1+1) (.slice a L.length cap) cs [] (fun p=>Qne L p L.length)
   (((wr.setCell ⟨base+1+1,0,none⟩ (.slice (some ⟨wr.heap.size,0,none⟩) L.length L.length)).alloc (.cells (Array.replicate L.length (.int .i64 0)) 3)).alloc (.cells #[fnV (base+1) (base+1+1) base (base+1+1+1+1) (wr.heap.size+1)] 109)):=by
   have xS:Below (wr.setCell ⟨base+1+1,0,none⟩ (.slice (some ⟨wr.heap.size,0,none⟩) L.length L.length)).heap.size (wr.setCell ⟨base+1+1,0,none⟩ (.slice (some ⟨wr.heap.size,0,none⟩) L.length L.length)) (((wr.setCell ⟨base+1+1,0,none⟩ (.slice (some ⟨wr.heap.size,0,none⟩) L.length L.length)).alloc (.cells (Array.replicate L.length (.int .i64 0)) 3)).alloc (.cells #[fnV (base+1) (base+1+1) base (base+1+1+1+1) (wr.heap.size+1)] 109)):=(Bq).alloc (by simp) _;have dE:Qud (List.replicate L.length 0)=Array.replicate L.length (.int .i64 0):=by simp[Qud,Qra]
   refine⟨⟨by simp;omega,((bG.keeps ka (by omega)).alloc _).alloc _,(Jy.keeps ka (fun q hq e=>by omega)).new xS,((Jd.set 0 _).alloc _).alloc _,((dY.keeps ka (by omega)).alloc _).alloc _,((dZ.keeps ka (by omega)).alloc _).alloc _,Holds.newAt (w:=(wr.setCell ⟨base+1+1,0,none⟩ (.slice (some ⟨wr.heap.size,0,none⟩) L.length L.length)).alloc _) (by simp) _ _⟩,⟨_,((hZ.keeps ka (by omega)).alloc _).alloc _,Qoc.nil _ _⟩,⟨List.replicate L.length 0,by simp,?_,fun q hq=>absurd hq (Nat.not_lt_zero q)⟩,?_⟩
   ·rw[dE];exact(Holds.newAt (w:=wr.setCell ⟨base+1+1,0,none⟩ (.slice (some ⟨wr.heap.size,0,none⟩) L.length L.length)) (by simp) _ _).alloc _
   exact(cJ.keeps ka (fun p q hp e e2=>by
    subst e2;obtain⟨_,cur,q2⟩:=Qob (cJ p hp) e;exact QSa q2 Jd (by decide) rfl)).keeps (Qaa.of_fresh xS (fun _=>False)) (fun _ _ _ _ e=>e)
  have aF:QXu cs L.length wr.heap.size:=⟨J6.1,J6.2.1,fun p q hp e h=>by have:=J6.2.2 p q hp e;omega⟩;have iJ:=QKo L base (base+1) (base+1+1) base (base+1+1+1+1) (wr.heap.size+1) wr.heap.size (base+1+1+1) (.slice a L.length cap) cs hS hD hn gz aF (by omega) (by omega) L.length 0 [] [] (-1) _ _ hS.1 (by omega) (by simp[Qgb]) (by unfold Q6b;rw[if_pos rfl];exact hS.2.2.symm) (QWr L) oz;have mQ:Below base w (((wr.setCell ⟨base+1+1,0,none⟩ (.slice (some ⟨wr.heap.size,0,none⟩) L.length L.length)).alloc (.cells (Array.replicate L.length (.int .i64 0)) 3)).alloc (.cells #[fnV (base+1) (base+1+1) base (base+1+1+1+1) (wr.heap.size+1)] 109)):=((hb.setCell (p:=⟨base+1+1,0,none⟩) (by simp;omega) _).alloc (by simp;omega) _).alloc (by simp;omega) _;rw[List.nil_append]at iJ;have nI:=hid iJ;clear iJ oz Hc ka aF;go_wp2_with fail;refine nI.o.mono ?_;rintro e w5 ⟨rfl,K',-,-,fS,H5⟩;obtain⟨⟨uh,-,-,aj,-,-,-⟩,⟨tv,gN,mA⟩,⟨l,GO,gS,pu⟩,-⟩:=fS;have gn:=mQ.trans H5;obtain⟨ta,tc,rfl⟩:=Qnc mA.row;have z0:=gN.cell 0;have zf:=gN.free 0;have p0:=aj.cell 0;have pf:=aj.free 0;have yY:=hid pu;have yX:=hid GO;clear nI mQ H5 x0 y0 yf yl xl v0 vf hV hb bG Jy hZ Jd dY dZ cJ J6 pu GO;have JE:=(((gN.set 0 (.slice ta ((QZa L L.length 0).map (Q6b L)).length tc)).other ⟨base+1+1,0,none⟩ (.slice (some ⟨wr.heap.size,0,none⟩) L.length L.length) (by show base+1≠base+1+1;omega)).drew).cell 0;have xG:=(((aj.other ⟨base+1,0,none⟩ (.slice ta ((QZa L L.length 0).map (Q6b L)).length tc) (by show base+1+1≠base+1;omega)).set 0 (.slice (some ⟨wr.heap.size,0,none⟩) L.length L.length)).drew).cell 0
  have kz:Qaa (fun b=>b=base+1∨b=base+1+1) w5 ((w5.setCell ⟨base+1,0,none⟩ (.slice ta ((QZa L L.length 0).map (Q6b L)).length tc)).setCell ⟨base+1+1,0,none⟩ (.slice (some ⟨wr.heap.size,0,none⟩) L.length L.length)).drew:=
   (((Qaa.refl _ w5).setCell (p:=⟨base+1,0,none⟩) (Or.inr (Or.inl rfl)) _).setCell (p:=⟨base+1+1,0,none⟩) (Or.inr (Or.inr rfl)) _).drew
  have M7:=mA.keeps kz (fun b e=>by
   rcases e with rfl|rfl
   ·exact Or.inr ⟨_,_,gN,by decide,by decide⟩
   exact Or.inr ⟨_,_,aj,by decide,by decide⟩)
  have uQ:=gS.keeps kz (fun e=>by
   rcases e with e|e
   ·exact QSa gS gN (by decide) e
   exact QSa gS aj (by decide) e)
  have Gd:=gn.trans (kz.below uh (fun b hb e=>by omega));have bP:base≤wr.heap.size:=Hy;simp only[List.length_map]at JE xG M7 uQ Gd;have HF:=hid (And.intro M7 (And.intro uQ Gd));clear M7 uQ Gd kz mA gS gn;go_wp2_with fail;go_region
  all_goals go_wp2_with fail
  all_goals exact bodyPost_ret (v:=.tuple #[.agg #[.slice ta (QZa L L.length 0).length tc],.slice (some ⟨wr.heap.size,0,none⟩) L.length L.length]) (by simp[results,Tryz.results38,go_sem,JE,xG]) rfl ⟨_,_,l,rfl,by rw[G0];exact HF.o.1,by rw[G0];exact bP,HF.o.2.1,yX.o,yY.o,by rw[G0];exact HF.o.2.2⟩
theorem Qtl(R:Nat→Prop)(v:Value)(L:List Qba)(w:World)(hL:Qoa R w v L)(hS:QUc L)(hD:Dis L)(hn:L.length≤1000)(gz:∀n∈L,n.props.length≤1000) :
 Calls prog 38 #[v] w fun e w'=>∃tv gP l,e=.returned (.tuple #[.agg #[tv],.slice (some ⟨gP,0,none⟩) L.length L.length])∧Qda w' w.heap.size tv (Qta L)∧w.heap.size≤gP∧Holds w' gP (Qud l) 3∧l.length=L.length∧(∀q (h:q<(Qgb L).length),l.getD (Qgb L)[q] 0=q)∧Below w.heap.size w w':=
 (Qgj R v L w hL hS hD hn gz).mono fun _ _ ⟨tv,gP,l,h1,h2,h3⟩=>⟨tv,gP,l,h1,h2.row,h3⟩
end Go.Proofs.YtgaboghigefgbaaGreatDoor
