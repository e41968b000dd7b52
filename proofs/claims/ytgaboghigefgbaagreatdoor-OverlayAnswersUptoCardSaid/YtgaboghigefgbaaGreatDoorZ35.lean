/- Lemmas on the way to the law; no conditions. -/
import Derived.Test.YtgaboghigefgbaaGreatDoorZ34
import Derived.StillTailTactics
import Derived.Deep.RegionHeld3
import Derived.Deep.RegionWith
set_option linter.all false
set_option maxRecDepth 100000
set_option maxHeartbeats 8000000
namespace Go.Proofs.YtgaboghigefgbaaGreatDoor
open Go.Proofs.Tryz
open Go.Lib (hid)
open Go.RowKit
theorem QOs{L:List Tok}{i:Nat}(h:i<L.length):tkN L i=L[i]:=by unfold tkN;rw[List.getD_eq_getElem?_getD,List.getElem?_eq_getElem h];rfl
theorem Qph.at{B:Nat}{w:World}{v:Value}{file:Int}{L:List Tok}{i:Nat}(h:Qph B w v file L)(hi:i<L.length):∃g cap,v=.slice (some ⟨g,0,none⟩) L.length cap∧g<B∧
 w.cell? ⟨g,i*6,none⟩=some (.int .i64 (tkN L i).kind)∧w.cell? ⟨g,i*6+1,none⟩=some (.string ⟨(tkN L i).text.toArray⟩)∧w.cell? ⟨g,i*6+2,none⟩=some (.int .i64 (tkN L i).value)∧
 w.cell? ⟨g,i*6+3,none⟩=some (.int .i64 file)∧w.cell? ⟨g,i*6+4,none⟩=some (.int .i64 (tkN L i).line)∧w.cell? ⟨g,i*6+5,none⟩=some (.int .i64 (tkN L i).col):=by
 obtain⟨g,cap,e,hg,hc⟩:=h;rw[QOs hi,Nat.mul_comm i 6];exact⟨g,cap,e,hg,hc i hi 0 _ rfl,hc i hi 1 _ rfl,hc i hi 2 _ rfl,hc i hi 3 _ rfl,hc i hi 4 _ rfl,hc i hi 5 _ rfl⟩
theorem LOk.at{L:List Tok}(h:LOk L)(i:Nat):(tkN L i).text.length≤16000:=by
 by_cases hi:i<L.length
 ·rw[QOs hi];exact h.text _ (List.getElem_mem hi)
 unfold tkN;rw[List.getD_eq_getElem?_getD,List.getElem?_eq_none (by omega)];simp
section
variable{w w':World}{r base:Nat}{file:Int}{L:List Tok}{lv ov:Value}{i:Nat}{D:List Qrc}
theorem Qhb.keeps(h:Qhb w r base file L lv ov i D)(k:Qaa (fun _=>False) w w'):Qhb w' r base file L lv ov i D:=
 ⟨h.holds.keeps k (fun e=>e),h.toks.keeps k (fun _ e=>e.elim),h.defs.keeps k (Qqc.nil _),h.low,Nat.le_trans h.size k.size,h.lt,h.ok,h.cnt⟩
theorem Qhb.turn(h:Qhb w r base file L lv ov i D)(k:Qaa (· = r) w w'){j:Nat}(hH:Holds w' r #[lv,.int .i64 j,ov,.pointer none] 148)(hj:j<L.length)(kV:i≤j):Qhb w' r base file L lv ov j D:=
 ⟨hH,h.toks.keeps k (fun b e=>by cases e;exact h.low),h.defs.keeps k (Qqc.one h.holds (by decide) (by decide) (by decide)),h.low,Nat.le_trans h.size k.size,hj,h.ok,Nat.le_trans h.cnt kV⟩
end
def Qnn(w:World)(B:Nat)(x0 x1 x2 x3 x4 x5:Value):World:=(((((w.setCell ⟨B,0,none⟩ x0).setCell ⟨B,1,none⟩ x1).setCell ⟨B,2,none⟩ x2).setCell ⟨B,3,none⟩ x3).setCell ⟨B,4,none⟩ x4).setCell ⟨B,5,none⟩ x5
theorem QVj{w:World}{B:Nat}{a b c d e f:Value}{t:TypeId}(h:Holds w B #[a,b,c,d,e,f] t)(x0 x1 x2 x3 x4 x5:Value):Holds (Qnn w B x0 x1 x2 x3 x4 x5) B #[x0,x1,x2,x3,x4,x5] t:=by
 have:=(((((h.set 0 x0).set 1 x1).set 2 x2).set 3 x3).set 4 x4).set 5 x5;exact this
theorem QGa{w:World}{B:Nat}{x0 x1 x2 x3 x4 x5:Value}{t:TypeId}(h:Holds w B #[x0,x1,x2,x3,x4,x5] t) :
 w.cell? ⟨B,0,none⟩=some x0∧w.cell? ⟨B,1,none⟩=some x1∧w.cell? ⟨B,2,none⟩=some x2∧w.cell? ⟨B,3,none⟩=some x3∧w.cell? ⟨B,4,none⟩=some x4∧w.cell? ⟨B,5,none⟩=some x5:=
 ⟨h.cell 0,h.cell 1,h.cell 2,h.cell 3,h.cell 4,h.cell 5⟩
theorem Qhg{w:World}{B:Nat}{x0 x1 x2 x3 x4 x5:Value}{t:TypeId}(h:Holds w B #[x0,x1,x2,x3,x4,x5] t) :
 w.frozen? ⟨B,0,none⟩=false∧w.frozen? ⟨B,1,none⟩=false∧w.frozen? ⟨B,2,none⟩=false∧w.frozen? ⟨B,3,none⟩=false∧w.frozen? ⟨B,4,none⟩=false∧w.frozen? ⟨B,5,none⟩=false:=
 ⟨h.free 0,h.free 1,h.free 2,h.free 3,h.free 4,h.free 5⟩
theorem QXd{w:World}{a:World}{B:Nat}{S:Nat→Prop}(h:Qaa S a w)(hB:a.heap.size≤B∨S B)(x0 x1 x2 x3 x4 x5:Value):Qaa S a (Qnn w B x0 x1 x2 x3 x4 x5):=
 ((((((h.setCell (p:=⟨B,0,none⟩) hB x0).setCell (p:=⟨B,1,none⟩) hB x1).setCell (p:=⟨B,2,none⟩) hB x2).setCell (p:=⟨B,3,none⟩) hB x3).setCell (p:=⟨B,4,none⟩) hB x4).setCell (p:=⟨B,5,none⟩) hB x5)
theorem Q2c(w:World)(r base:Nat)(file:Int)(L:List Tok)(lv ov:Value)(i:Nat)(D:List Qrc)(h:Qhb w r base file L lv ov i D) :
 Calls prog 121 #[.pointer (some ⟨r,0,none⟩)] w fun e w'=>e=.returned (QKb file (tkN L i))∧Below w.heap.size w w':=by
 obtain⟨g,cap,rfl,hg,d0,d1,d2,d3,d4,d5⟩:=h.toks.at h.lt;have hL:=h.ok.len;have hi:=h.lt;have iI:(i:Int)<(L.length:Int):=by omega
 have c0:=h.holds.cell 0;have c1:=h.holds.cell 1;have cl:=h.holds.lt;have gl:=World.block_lt_of_cell? w _ d0;unfold QKb;generalize tkN L i=t at *
 obtain⟨t0,t1,t2,t3,t4⟩:=t;simp only at d0 d1 d2 d3 d4 d5 gl;clear h;have hN:=Holds.new w #[.int .i64 0,.string ⟨#[]⟩,.int .i64 0,.int .i64 0,.int .i64 0,.int .i64 0] 150;have hb:Below w.heap.size w (w.alloc (.cells #[.int .i64 0,.string ⟨#[]⟩,.int .i64 0,.int .i64 0,.int .i64 0,.int .i64 0] 150)):=Bq;have c0':=(hb.cell cl).trans c0;have c1':=(hb.cell cl).trans c1;have d0':=(hb.cell gl).trans d0;have d1':=(hb.cell gl).trans d1;have d2':=(hb.cell gl).trans d2;have d3':=(hb.cell gl).trans d3;have d4':=(hb.cell gl).trans d4;have d5':=(hb.cell gl).trans d5;clear c0 c1 d0 d1 d2 d3 d4 d5;go_enter func121,ntmps121;go_wp2_with fail;generalize w.alloc (.cells #[.int .i64 0,.string ⟨#[]⟩,.int .i64 0,.int .i64 0,.int .i64 0,.int .i64 0] 150)=w0 at *
 have Hh:=hN.lt;obtain⟨f0,f1,f2,f3,f4,f5⟩:=Qhg hN;obtain⟨m0,m1,m2,m3,m4,m5⟩:=QGa hN
 go_still_tail 10,(by kernel_rfl)
 go_wp2_with fail;have hS:=(QVj hN (.int .i64 t0) (.string ⟨t1.toArray⟩) (.int .i64 t2) (.int .i64 file) (.int .i64 t3) (.int .i64 t4)).drew;unfold Qnn at hS;obtain⟨q0,q1,q2,q3,q4,q5⟩:=QGa hS;exact bodyPost_ret (v:=.agg #[.int .i64 t0,.string ⟨t1.toArray⟩,.int .i64 t2,.int .i64 file,.int .i64 t3,.int .i64 t4]) (by simp[results,Tryz.results121,go_sem,q0,q1,q2,q3,q4,q5]) rfl ⟨rfl,(((((((hb.setCell (Nat.le_refl _) _).setCell (Nat.le_refl _) _).setCell (Nat.le_refl _) _).setCell (Nat.le_refl _) _).setCell (Nat.le_refl _) _).setCell (Nat.le_refl _) _).drew)⟩
theorem QZd(w:World)(r base:Nat)(file:Int)(L:List Tok)(lv ov:Value)(i:Nat)(D:List Qrc)(h:Qhb w r base file L lv ov i D)(kind:Int)(s:List UInt8) :
 Calls prog 165 #[.pointer (some ⟨r,0,none⟩),.int .i64 kind,.string ⟨s.toArray⟩] w fun e w'=>e=.returned (.bool (isK L i kind s))∧Below w.heap.size w w':=by
 have hn:=Q2c w r base file L lv ov i D h;have hK:=hid (show isK L i kind s=(decide ((tkN L i).kind=kind)&&(s.isEmpty||decide ((tkN L i).text=s)))from rfl);unfold QKb at hn;generalize tkN L i=t at *
 obtain⟨t0,t1,t2,t3,t4⟩:=t;simp only at hn hK;clear h;go_enter func165,ntmps165;go_wp2_with fail;refine hn.mono ?_;rintro e w1 ⟨rfl,hb⟩;have hN:=Holds.new w1 #[.int .i64 t0,.string ⟨t1.toArray⟩,.int .i64 t2,.int .i64 file,.int .i64 t3,.int .i64 t4] 150;have Hc:Below w.heap.size w (w1.alloc (.cells #[.int .i64 t0,.string ⟨t1.toArray⟩,.int .i64 t2,.int .i64 file,.int .i64 t3,.int .i64 t4] 150)):=hb.alloc hb.size _;obtain⟨m0,m1,m2,m3,m4,m5⟩:=QGa hN;by_cases hk:t0=kind
 ·subst hk;by_cases hs:s=[]
  ·subst hs;go_wp2_with fail;go_ret;exact⟨Qka (by rw[hK.o];simp),Hc⟩
  have Hl:(s == [])=false:=by rw[beq_eq_false_iff_ne];exact hs
  have Ao:s.isEmpty=false:=by simpa using hs
  have HS:=hid hs;clear hs;by_cases ht:t1=s
  ·have HT:=hid ht;subst ht;go_wp2_with fail;go_ret;exact⟨Qka (by rw[hK.o];simp),Hc⟩
  have vJ:(t1==s)=false:=by rw[beq_eq_false_iff_ne];exact ht
  have HT:=hid ht;clear ht;go_wp2_with fail;go_ret;exact⟨Qka (by rw[hK.o,Ao,decide_eq_false HT.o];simp[HT.o]),Hc⟩
 have dz:(t0==kind)=false:=by rw[beq_eq_false_iff_ne];exact hk
 go_wp2_with fail;go_ret;exact⟨Qka (by rw[hK.o];simp[hk]),Hc⟩
theorem Qyd(w:World)(r base:Nat)(file:Int)(L:List Tok)(lv ov:Value)(i:Nat)(D:List Qrc)(h:Qhb w r base file L lv ov i D)(k:Nat)(c:Int) :
 Calls prog 168 #[.pointer (some ⟨r,0,none⟩),QKb file (tkN L k),.int .i64 c] w fun e w'=>e=.returned (.bool false)∧QBb w' r file L lv ov k c∧Qaa (· = r) w w':=by
 have xL:=hid (show ∀(wx:World) (x:Value) (f:Nat),Holds wx r #[lv,x,ov,.pointer (some ⟨f,0,none⟩)] 148→Holds wx f #[.int .i64 file,.int .i64 (tkN L k).line,.int .i64 (tkN L k).col,.int .i64 c] 153→QBb wx r file L lv ov k c from fun wx x f h1 h2=>⟨x,f,h1,h2⟩);unfold QKb;generalize tkN L k=t at *
 obtain⟨t0,t1,t2,t3,t4⟩:=t;simp only at xL ⊢;have hH:=h.holds;have cl:=hH.lt;clear h;have hN:=Holds.new w #[.int .i64 t0,.string ⟨t1.toArray⟩,.int .i64 t2,.int .i64 file,.int .i64 t3,.int .i64 t4] 150;have Gl:=hH.alloc (.cells #[.int .i64 t0,.string ⟨t1.toArray⟩,.int .i64 t2,.int .i64 file,.int .i64 t3,.int .i64 t4] 150);have H3:=(Qaa.refl (· = r) w).alloc (.cells #[.int .i64 t0,.string ⟨t1.toArray⟩,.int .i64 t2,.int .i64 file,.int .i64 t3,.int .i64 t4] 150);have c3:(w.alloc (.cells #[.int .i64 t0,.string ⟨t1.toArray⟩,.int .i64 t2,.int .i64 file,.int .i64 t3,.int .i64 t4] 150)).cell? ⟨r,3,none⟩=some (.pointer none):=Gl.cell 3;have c3f:=hH.free 3;have hsz:(w.alloc (.cells #[.int .i64 t0,.string ⟨t1.toArray⟩,.int .i64 t2,.int .i64 file,.int .i64 t3,.int .i64 t4] 150)).heap.size=w.heap.size+1:=by simp
 obtain⟨m0,m1,m2,m3,m4,m5⟩:=QGa hN;go_enter func168,ntmps168;go_wp2_with fail;go_ret;exact⟨rfl,xL.o _ (.int .i64 i) (w.heap.size+1) (((hH.set 3 _).alloc _).alloc _) (Holds.newAt (by simp) _ _),(((Qaa.refl (· = r) w).setCell (p:=⟨r,3,none⟩) (.inr rfl) _).alloc _).alloc _⟩
theorem Qyo{w:World}{b B:Nat}{cs:Array Value}{t:TypeId}(h:Holds w b cs t)(Hl:b≠B)(x0 x1 x2 x3 x4 x5:Value):Holds (Qnn w B x0 x1 x2 x3 x4 x5) b cs t:=
 (((((h.other ⟨B,0,none⟩ x0 Hl).other ⟨B,1,none⟩ x1 Hl).other ⟨B,2,none⟩ x2 Hl).other ⟨B,3,none⟩ x3 Hl).other ⟨B,4,none⟩ x4 Hl).other ⟨B,5,none⟩ x5 Hl
theorem QBb.six{w:World}{r B:Nat}{file:Int}{L:List Tok}{lv ov:Value}{k:Nat}{c:Int}{cs:Array Value}(h:QBb w r file L lv ov k c)(hB:Holds w B cs 150)(x0 x1 x2 x3 x4 x5:Value):QBb (Qnn w B x0 x1 x2 x3 x4 x5) r file L lv ov k c:=
 h.one hB (by decide) (by decide) (QXd (S:=(· = B)) (Qaa.refl _ w) (.inr rfl) x0 x1 x2 x3 x4 x5)
def Qmj(r base:Nat)(file:Int)(L:List Tok)(lv ov:Value)(i:Nat)(D:List Qrc)(kind:Int)(s:List UInt8)(w:World)(e:Ending)(w':World):Prop:=
 e=.returned (.tuple #[QKb file (tkN L i),.bool (isK L i kind s)])∧Qaa (· = r) w w'∧(isK L i kind s=true→Qhb w' r base file L lv ov (i+1) D)∧(isK L i kind s=false→QBb w' r file L lv ov i 6)
theorem Qrn(w:World)(r base:Nat)(file:Int)(L:List Tok)(lv ov:Value)(i:Nat)(D:List Qrc)(h:Qhb w r base file L lv ov i D)(kind:Int)(s:List UInt8)(hk8:kind≠8) :
 Calls prog 198 #[.pointer (some ⟨r,0,none⟩),.int .i64 kind,.string ⟨s.toArray⟩] w (Qmj r base file L lv ov i D kind s w):=by
 have gG:=h.holds.lt;have He:Below w.heap.size w (w.alloc (.cells #[.int .i64 0,.string ⟨#[]⟩,.int .i64 0,.int .i64 0,.int .i64 0,.int .i64 0] 150)):=Bq;have Kh:=Holds.new w #[.int .i64 0,.string ⟨#[]⟩,.int .i64 0,.int .i64 0,.int .i64 0,.int .i64 0] 150;have HH:=hid h;have hn:=Q2c _ r base file L lv ov i D (h.keeps (Qaa.of_fresh He (fun _=>False)));have Gf:isK L i kind s=true→i+1<L.length:=fun hk=>h.ok.next h.lt (by unfold isK at hk;simp only[Bool.and_eq_true,decide_eq_true_eq]at hk;rw[hk.1];exact hk8);have JY:=hid Gf;have lz:(i:Int)<10000:=by have:=h.ok.len;have:=h.lt;omega
 have yU:=hid (fun wx hx=>QZd wx r base file L lv ov i D hx kind s);have GW:=hid (fun wx hx=>Qyd wx r base file L lv ov i D hx i 6);unfold Qmj;unfold QKb at hn GW ⊢;generalize tkN L i=t at *
 obtain⟨t0,t1,t2,t3,t4⟩:=t;simp only at hn GW ⊢;clear Gf h;go_enter func198,ntmps198;go_wp2_with fail;generalize w.alloc (.cells #[.int .i64 0,.string ⟨#[]⟩,.int .i64 0,.int .i64 0,.int .i64 0,.int .i64 0] 150)=w0 at *
 refine hn.mono ?_;rintro e w1 ⟨rfl,Hb⟩;have Gh:Qaa (fun _=>False) w w1:=(Qaa.of_fresh He (fun _=>False)).trans (Qaa.of_fresh Hb (fun _=>False)) (fun _ _ e=>e);have Jc:=Kh.fr Hb;have lh:=Jc.alloc (.cells #[.int .i64 t0,.string ⟨t1.toArray⟩,.int .i64 t2,.int .i64 file,.int .i64 t3,.int .i64 t4] 150);have kE:=Holds.new w1 #[.int .i64 t0,.string ⟨t1.toArray⟩,.int .i64 t2,.int .i64 file,.int .i64 t3,.int .i64 t4] 150;have H3:=Gh.alloc (.cells #[.int .i64 t0,.string ⟨t1.toArray⟩,.int .i64 t2,.int .i64 file,.int .i64 t3,.int .i64 t4] 150);have zD:=Hb.size;have nJ:=Kh.lt;clear He Kh hn Hb Jc Gh;go_wp2_with fail;generalize w1.alloc (.cells #[.int .i64 t0,.string ⟨t1.toArray⟩,.int .i64 t2,.int .i64 file,.int .i64 t3,.int .i64 t4] 150)=w2 at *
 refine(yU.o w2 (HH.o.keeps H3)).mono ?_;rintro e w3 ⟨rfl,Hg⟩;have H9:=H3.trans (Qaa.of_fresh Hg (fun _=>False)) (fun _ _ e=>e);have JA:=lh.fr Hg;have KW:=kE.fr Hg;have GE:=hid (HH.o.keeps H9);have GO:=JA.lt;have gS:=KW.lt;have gi:r≠w.heap.size:=by omega
 have Gz:r≠w1.heap.size:=by omega
 have MC:w.heap.size≠w1.heap.size:=by omega
 obtain⟨m0,m1,m2,m3,m4,m5⟩:=QGa KW;obtain⟨f0,f1,f2,f3,f4,f5⟩:=Qhg JA;obtain⟨n0,n1,n2,n3,n4,n5⟩:=QGa JA;have dP:=hid H9;have wv:=hid JA;clear H3 lh kE Hg H9 JA;cases hk:isK L i kind s with
 | true=>
  have Hh:=JY.o hk;have cH:=GE.o.holds;have c1:w3.cell? ⟨r,1,none⟩=some (.int .i64 i):=cH.cell 1;have c1f:=cH.free 1;have crl:=cH.lt;go_wp2_with fail;have e1:(i:Int)+1=((i+1:Nat):Int):=by omega
  have kw:=QXd ((dP.o.mono (S:=(· = r)) (fun _ _ e=>e.elim)).setCell (p:=⟨r,1,none⟩) (.inr rfl) (.int .i64 ((i:Int)+1))) (B:=w.heap.size) (.inl (Nat.le_refl _)) (.int .i64 t0) (.string ⟨t1.toArray⟩) (.int .i64 t2) (.int .i64 file) (.int .i64 t3) (.int .i64 t4);have fP:=QVj (wv.o.other ⟨r,1,none⟩ (.int .i64 ((i:Int)+1)) (Ne.symm gi)) (.int .i64 t0) (.string ⟨t1.toArray⟩) (.int .i64 t2) (.int .i64 file) (.int .i64 t3) (.int .i64 t4);have zO:=Qyo (B:=w.heap.size) (cH.set 1 (.int .i64 ((i:Int)+1))) gi (.int .i64 t0) (.string ⟨t1.toArray⟩) (.int .i64 t2) (.int .i64 file) (.int .i64 t3) (.int .i64 t4);have Hp:=HH.o.turn (j:=i+1) kw (by rw[←e1];exact zO) Hh (by omega);unfold Qnn at fP Hp kw;obtain⟨q0,q1,q2,q3,q4,q5⟩:=QGa fP;exact bodyPost_ret (v:=.tuple #[.agg #[.int .i64 t0,.string ⟨t1.toArray⟩,.int .i64 t2,.int .i64 file,.int .i64 t3,.int .i64 t4],.bool true]) (by simp[results,Tryz.results198,go_sem,q0,q1,q2,q3,q4,q5]) rfl ⟨by rw[hk],kw,fun _=>Hp,fun e=>(by rw[hk]at e;cases e)⟩
 | false=>
  go_wp2_with fail
  go_region_with (go_at_call 168;refine(GW.o _ (by exact GE.o.keeps ((Qaa.refl _ _).drew))).mono ?_;rintro e w4 ⟨rfl,gu,G7⟩;have bH:=wv.o.drew.keeps G7 (fun e=>gi e.symm);have ag:=KW.drew.keeps G7 (fun e=>Gz e.symm);obtain⟨y0,y1,y2,y3,y4,y5⟩:=QGa ag;obtain⟨v0,v1,v2,v3,v4,v5⟩:=QGa bH;obtain⟨z0,z1,z2,z3,z4,z5⟩:=Qhg bH;have yi:=bH.lt)
  all_goals
   go_wp2_with fail;have kw:=QXd (((dP.o.mono (S:=(· = r)) (fun _ _ e=>e.elim)).drew).trans G7 (fun _ _ e=>e)) (B:=w.heap.size) (.inl (Nat.le_refl _)) (.int .i64 t0) (.string ⟨t1.toArray⟩) (.int .i64 t2) (.int .i64 file) (.int .i64 t3) (.int .i64 t4);have fP:=QVj bH (.int .i64 t0) (.string ⟨t1.toArray⟩) (.int .i64 t2) (.int .i64 file) (.int .i64 t3) (.int .i64 t4);have Hp:=gu.six bH (.int .i64 t0) (.string ⟨t1.toArray⟩) (.int .i64 t2) (.int .i64 file) (.int .i64 t3) (.int .i64 t4);unfold Qnn at fP Hp kw;obtain⟨q0,q1,q2,q3,q4,q5⟩:=QGa fP;exact bodyPost_ret (v:=.tuple #[.agg #[.int .i64 t0,.string ⟨t1.toArray⟩,.int .i64 t2,.int .i64 file,.int .i64 t3,.int .i64 t4],.bool false]) (by simp[results,Tryz.results198,go_sem,q0,q1,q2,q3,q4,q5]) rfl ⟨by rw[hk],kw,fun e=>(by rw[hk]at e;cases e),fun _=>Hp⟩
def Qvf(r base:Nat)(file:Int)(L:List Tok)(lv ov:Value)(i:Nat)(D:List Qrc)(s:List UInt8)(w:World)(e:Ending)(w':World):Prop:=
 e=.returned (.bool (isK L i 4 s))∧Qaa (· = r) w w'∧(isK L i 4 s=true→Qhb w' r base file L lv ov (i+1) D)∧(isK L i 4 s=false→QBb w' r file L lv ov i 6)
theorem QBb.alloc{w:World}{r:Nat}{file:Int}{L:List Tok}{lv ov:Value}{k:Nat}{c:Int}(h:QBb w r file L lv ov k c)(o:Obj):QBb (w.alloc o) r file L lv ov k c:=h.new ((Qaa.refl _ w).alloc o)
theorem Qhb.alloc{w:World}{r base:Nat}{file:Int}{L:List Tok}{lv ov:Value}{i:Nat}{D:List Qrc}(h:Qhb w r base file L lv ov i D)(o:Obj):Qhb (w.alloc o) r base file L lv ov i D:=h.keeps ((Qaa.refl _ w).alloc o)
theorem Qmh(w:World)(r base:Nat)(file:Int)(L:List Tok)(lv ov:Value)(i:Nat)(D:List Qrc)(h:Qhb w r base file L lv ov i D)(s:List UInt8) :
 Calls prog 163 #[.pointer (some ⟨r,0,none⟩),.string ⟨s.toArray⟩] w (Qvf r base file L lv ov i D s w):=by
 have ht:=Qrn w r base file L lv ov i D h 4 s (by decide);unfold Qmj QKb at ht;unfold Qvf;clear h;generalize isK L i 4 s=b at *
 go_enter func163,ntmps163;go_wp2_with fail;refine ht.mono ?_;rintro e w1 ⟨rfl,hk,h1,h2⟩;have H1:=hid h1;have H2:=hid h2;clear h1 h2;go_wp2_with fail;go_ret;exact⟨rfl,hk.alloc _,fun e=>(H1.o e).alloc _,fun e=>(H2.o e).alloc _⟩
def Qnj(r base:Nat)(file:Int)(L:List Tok)(lv ov:Value)(i:Nat)(D:List Qrc)(kind:Int)(right:List UInt8→Bool)(w:World)(e:Ending)(w':World):Prop:=
 Qaa (· = r) w w'∧match QKe L kind right i with
  | .ok j=>e=.returned (.tuple #[QKb file (tkN L i),.bool true])∧Qhb w' r base file L lv ov j D
  | .error (k,c)=>e=.returned (.tuple #[QKb file (tkN L i),.bool false])∧QBb w' r file L lv ov k c
end Go.Proofs.YtgaboghigefgbaaGreatDoor
