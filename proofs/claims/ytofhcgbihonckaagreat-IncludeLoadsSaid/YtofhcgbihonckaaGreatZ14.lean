/- The reader of source: next, is, fail, take, sign. | The reader of source: fail, take, sign. -/
import Derived.Test.YtofhcgbihonckaaGreatZ12
import Derived.Test.YtofhcgbihonckaaGreatZ2
import Derived.StillTailTactics
import Derived.Deep.RegionHeld3
import Derived.Deep.RegionWith
set_option linter.all false
set_option maxHeartbeats 8000000
namespace Go.Proofs.YtofhcgbihonckaaGreat
open Go.Lib (hid)
open Go.RowKit
theorem Q3o{L:List Tok}{i:Nat}(h:i<L.length):tkN L i=L[i]:=by unfold tkN;rw[List.getD_eq_getElem?_getD,List.getElem?_eq_getElem h];rfl
theorem Qjf.at{B:Nat}{w:World}{v:Value}{file:Int}{L:List Tok}{i:Nat}(h:Qjf B w v file L)(hi:i<L.length):∃g cap,v = .slice (some ⟨g,0,none⟩) L.length cap∧g<B∧
 w.cell? ⟨g,i*6,none⟩=some (.int .i64 (tkN L i).kind)∧w.cell? ⟨g,i*6+1,none⟩=some (.string ⟨(tkN L i).text.toArray⟩)∧w.cell? ⟨g,i*6+2,none⟩=some (.int .i64 (tkN L i).value)∧
 w.cell? ⟨g,i*6+3,none⟩=some (.int .i64 file)∧w.cell? ⟨g,i*6+4,none⟩=some (.int .i64 (tkN L i).line)∧w.cell? ⟨g,i*6+5,none⟩=some (.int .i64 (tkN L i).col):=by
 obtain⟨g,cap,e,hg,hc⟩:=h
 rw[Q3o hi,Nat.mul_comm i 6]
 exact⟨g,cap,e,hg,hc i hi 0 _ rfl,hc i hi 1 _ rfl,hc i hi 2 _ rfl,hc i hi 3 _ rfl,hc i hi 4 _ rfl,hc i hi 5 _ rfl⟩
theorem LOk.at{L:List Tok}(h:LOk L)(i:Nat):(tkN L i).text.length≤16000:=by
 by_cases hi:i<L.length
 ·rw[Q3o hi];exact h.text _ (List.getElem_mem hi)
 ·unfold tkN;rw[List.getD_eq_getElem?_getD,List.getElem?_eq_none (by omega)];simp
section
variable{w w':World}{r base:Nat}{file:Int}{L:List Tok}{lv ov:Value}{i:Nat}{D:List Qwa}
theorem QUa.keeps(h:QUa w r base file L lv ov i D)(k:Qaa (fun _=>False) w w'):QUa w' r base file L lv ov i D:=
 ⟨h.holds.keeps k (fun e=>e),h.toks.keeps k (fun _ e=>e.elim),h.defs.keeps k (QLa.nil _),h.low,Nat.le_trans h.size k.size,h.lt,h.ok,h.cnt⟩
theorem QUa.turn(h:QUa w r base file L lv ov i D)(k:Qaa (· = r) w w'){j:Nat}(hH:Qca w' r #[lv,.int .i64 j,ov,.pointer none] 63)(hj:j<L.length)(GV:i≤j):QUa w' r base file L lv ov j D:=
 ⟨hH,h.toks.keeps k (fun b e=>by cases e;exact h.low),h.defs.keeps k (QLa.one h.holds (by decide) (by decide) (by decide)),h.low,Nat.le_trans h.size k.size,hj,h.ok,Nat.le_trans h.cnt GV⟩
end
def Q3k(w:World)(B:Nat)(x0 x1 x2 x3 x4 x5:Value):World:=(((((w.setCell ⟨B,0,none⟩ x0).setCell ⟨B,1,none⟩ x1).setCell ⟨B,2,none⟩ x2).setCell ⟨B,3,none⟩ x3).setCell ⟨B,4,none⟩ x4).setCell ⟨B,5,none⟩ x5
theorem Qgi{w:World}{B:Nat}{a b c d e f:Value}{t:TypeId}(h:Qca w B #[a,b,c,d,e,f] t)(x0 x1 x2 x3 x4 x5:Value):Qca (Q3k w B x0 x1 x2 x3 x4 x5) B #[x0,x1,x2,x3,x4,x5] t:=by
 have:=(((((h.set 0 x0).set 1 x1).set 2 x2).set 3 x3).set 4 x4).set 5 x5
 exact this
theorem Qga{w:World}{B:Nat}{x0 x1 x2 x3 x4 x5:Value}{t:TypeId}(h:Qca w B #[x0,x1,x2,x3,x4,x5] t) :
 w.cell? ⟨B,0,none⟩=some x0∧w.cell? ⟨B,1,none⟩=some x1∧w.cell? ⟨B,2,none⟩=some x2∧w.cell? ⟨B,3,none⟩=some x3∧w.cell? ⟨B,4,none⟩=some x4∧w.cell? ⟨B,5,none⟩=some x5:=
 ⟨h.cell 0,h.cell 1,h.cell 2,h.cell 3,h.cell 4,h.cell 5⟩
theorem QWb{w:World}{B:Nat}{x0 x1 x2 x3 x4 x5:Value}{t:TypeId}(h:Qca w B #[x0,x1,x2,x3,x4,x5] t) :
 w.frozen? ⟨B,0,none⟩=false∧w.frozen? ⟨B,1,none⟩=false∧w.frozen? ⟨B,2,none⟩=false∧w.frozen? ⟨B,3,none⟩=false∧w.frozen? ⟨B,4,none⟩=false∧w.frozen? ⟨B,5,none⟩=false:=
 ⟨h.free 0,h.free 1,h.free 2,h.free 3,h.free 4,h.free 5⟩
theorem Qwd{w:World}{a:World}{B:Nat}{S:Nat→Prop}(h:Qaa S a w)(hB:a.heap.size≤B∨S B)(x0 x1 x2 x3 x4 x5:Value):Qaa S a (Q3k w B x0 x1 x2 x3 x4 x5):=
 ((((((h.setCell (p:=⟨B,0,none⟩) hB x0).setCell (p:=⟨B,1,none⟩) hB x1).setCell (p:=⟨B,2,none⟩) hB x2).setCell (p:=⟨B,3,none⟩) hB x3).setCell (p:=⟨B,4,none⟩) hB x4).setCell (p:=⟨B,5,none⟩) hB x5)
set_option maxRecDepth 100000 in
theorem QOc(w:World)(r base:Nat)(file:Int)(L:List Tok)(lv ov:Value)(i:Nat)(D:List Qwa)(h:QUa w r base file L lv ov i D) :
 Calls Tryz.prog 28 #[.pointer (some ⟨r,0,none⟩)] w fun e w'=>e = .returned (Qfb file (tkN L i))∧Below w.heap.size w w':=by
 obtain⟨g,cap,rfl,hg,d0,d1,d2,d3,d4,d5⟩:=h.toks.at h.lt
 have hL:=h.ok.len
 have hi:=h.lt
 have iI:(i:Int)<(L.length:Int):=by omega
 have c0:=h.holds.cell 0
 have c1:=h.holds.cell 1
 have cl:=h.holds.lt
 have gl:=World.block_lt_of_cell? w _ d0
 unfold Qfb
 generalize tkN L i=t at *
 obtain⟨t0,t1,t2,t3,t4⟩:=t
 simp only at d0 d1 d2 d3 d4 d5 gl
 clear h
 have hN:=Qca.new w #[.int .i64 0,.string ⟨#[]⟩,.int .i64 0,.int .i64 0,.int .i64 0,.int .i64 0] 65
 have hb:Below w.heap.size w (w.alloc (.cells #[.int .i64 0,.string ⟨#[]⟩,.int .i64 0,.int .i64 0,.int .i64 0,.int .i64 0] 65)):=(Below.refl _ _).alloc (Nat.le_refl _) _
 have c0':=(hb.cell cl).trans c0
 have c1':=(hb.cell cl).trans c1
 have d0':=(hb.cell gl).trans d0
 have d1':=(hb.cell gl).trans d1
 have d2':=(hb.cell gl).trans d2
 have d3':=(hb.cell gl).trans d3
 have d4':=(hb.cell gl).trans d4
 have d5':=(hb.cell gl).trans d5
 clear c0 c1 d0 d1 d2 d3 d4 d5
 go_enter Tryz.func28,Tryz.ntmps28
 go_wp2_with fail
 generalize w.alloc (.cells #[.int .i64 0,.string ⟨#[]⟩,.int .i64 0,.int .i64 0,.int .i64 0,.int .i64 0] 65)=w0 at *
 have Hh:=hN.lt
 obtain⟨f0,f1,f2,f3,f4,f5⟩:=QWb hN
 obtain⟨m0,m1,m2,m3,m4,m5⟩:=Qga hN
 go_still_tail 10,(by kernel_rfl)
 go_wp2_with fail
 have hS:=(Qgi hN (.int .i64 t0) (.string ⟨t1.toArray⟩) (.int .i64 t2) (.int .i64 file) (.int .i64 t3) (.int .i64 t4)).drew
 unfold Q3k at hS
 obtain⟨q0,q1,q2,q3,q4,q5⟩:=Qga hS
 exact bodyPost_ret (v:=.agg #[.int .i64 t0,.string ⟨t1.toArray⟩,.int .i64 t2,.int .i64 file,.int .i64 t3,.int .i64 t4]) (by simp[results,Tryz.results28,go_sem,q0,q1,q2,q3,q4,q5]) rfl ⟨rfl,(((((((hb.setCell (Nat.le_refl _) _).setCell (Nat.le_refl _) _).setCell (Nat.le_refl _) _).setCell (Nat.le_refl _) _).setCell (Nat.le_refl _) _).setCell (Nat.le_refl _) _).drew)⟩
set_option maxRecDepth 100000 in
theorem Qdd(w:World)(r base:Nat)(file:Int)(L:List Tok)(lv ov:Value)(i:Nat)(D:List Qwa)(h:QUa w r base file L lv ov i D)(kind:Int)(s:List UInt8) :
 Calls Tryz.prog 56 #[.pointer (some ⟨r,0,none⟩),.int .i64 kind,.string ⟨s.toArray⟩] w fun e w'=>e = .returned (.bool (isK L i kind s))∧Below w.heap.size w w':=by
 have hn:=QOc w r base file L lv ov i D h
 have hK:=hid (show isK L i kind s=(decide ((tkN L i).kind=kind) && (s.isEmpty || decide ((tkN L i).text=s)))from rfl)
 unfold Qfb at hn
 generalize tkN L i=t at *
 obtain⟨t0,t1,t2,t3,t4⟩:=t
 simp only at hn hK
 clear h
 go_enter Tryz.func56,Tryz.ntmps56
 go_wp2_with fail
 refine hn.mono ?_
 rintro e w1 ⟨rfl,hb⟩
 have hN:=Qca.new w1 #[.int .i64 t0,.string ⟨t1.toArray⟩,.int .i64 t2,.int .i64 file,.int .i64 t3,.int .i64 t4] 65
 have Ho:Below w.heap.size w (w1.alloc (.cells #[.int .i64 t0,.string ⟨t1.toArray⟩,.int .i64 t2,.int .i64 file,.int .i64 t3,.int .i64 t4] 65)):=hb.alloc hb.size _
 obtain⟨m0,m1,m2,m3,m4,m5⟩:=Qga hN
 by_cases hk:t0=kind
 ·subst hk
  by_cases hs:s=[]
  ·subst hs
   go_wp2_with fail
   go_ret
   exact⟨Qla (by rw[hK.out];simp),Ho⟩
  ·have Hn:(s == [])=false:=by rw[beq_eq_false_iff_ne];exact hs
   have cy:s.isEmpty=false:=by simpa using hs
   have HS:=hid hs
   clear hs
   by_cases ht:t1=s
   ·have HT:=hid ht
    subst ht
    go_wp2_with fail
    go_ret
    exact⟨Qla (by rw[hK.out];simp),Ho⟩
   ·have tI:(t1 == s)=false:=by rw[beq_eq_false_iff_ne];exact ht
    have HT:=hid ht
    clear ht
    go_wp2_with fail
    go_ret
    exact⟨Qla (by rw[hK.out,cy,decide_eq_false HT.out];simp[HT.out]),Ho⟩
 ·have kR:(t0 == kind)=false:=by rw[beq_eq_false_iff_ne];exact hk
  go_wp2_with fail
  go_ret
  exact⟨Qla (by rw[hK.out];simp[hk]),Ho⟩
set_option maxRecDepth 100000 in
theorem QNc(w:World)(r base:Nat)(file:Int)(L:List Tok)(lv ov:Value)(i:Nat)(D:List Qwa)(h:QUa w r base file L lv ov i D)(k:Nat)(c:Int) :
 Calls Tryz.prog 59 #[.pointer (some ⟨r,0,none⟩),Qfb file (tkN L k),.int .i64 c] w fun e w'=>e = .returned (.bool false)∧Qob w' r file L lv ov k c∧Qaa (· = r) w w':=by
 have ct:=hid (show ∀(wx:World) (x:Value) (f:Nat),Qca wx r #[lv,x,ov,.pointer (some ⟨f,0,none⟩)] 63→Qca wx f #[.int .i64 file,.int .i64 (tkN L k).line,.int .i64 (tkN L k).col,.int .i64 c] 68→Qob wx r file L lv ov k c from fun wx x f h1 h2=>⟨x,f,h1,h2⟩)
 unfold Qfb
 generalize tkN L k=t at *
 obtain⟨t0,t1,t2,t3,t4⟩:=t
 simp only at ct ⊢
 have hH:=h.holds
 have cl:=hH.lt
 clear h
 have hN:=Qca.new w #[.int .i64 t0,.string ⟨t1.toArray⟩,.int .i64 t2,.int .i64 file,.int .i64 t3,.int .i64 t4] 65
 have Gv:=hH.alloc (.cells #[.int .i64 t0,.string ⟨t1.toArray⟩,.int .i64 t2,.int .i64 file,.int .i64 t3,.int .i64 t4] 65)
 have ga:=(Qaa.refl (· = r) w).alloc (.cells #[.int .i64 t0,.string ⟨t1.toArray⟩,.int .i64 t2,.int .i64 file,.int .i64 t3,.int .i64 t4] 65)
 have c3:(w.alloc (.cells #[.int .i64 t0,.string ⟨t1.toArray⟩,.int .i64 t2,.int .i64 file,.int .i64 t3,.int .i64 t4] 65)).cell? ⟨r,3,none⟩=some (.pointer none):=Gv.cell 3
 have c3f:=hH.free 3
 have gn:(w.alloc (.cells #[.int .i64 t0,.string ⟨t1.toArray⟩,.int .i64 t2,.int .i64 file,.int .i64 t3,.int .i64 t4] 65)).heap.size=w.heap.size+1:=by simp
 obtain⟨m0,m1,m2,m3,m4,m5⟩:=Qga hN
 go_enter Tryz.func59,Tryz.ntmps59
 go_wp2_with fail
 go_ret
 exact⟨rfl,ct.out _ (.int .i64 i) (w.heap.size+1) (((hH.set 3 _).alloc _).alloc _) (Qca.newAt (by simp) _ _),(((Qaa.refl (· = r) w).setCell (p:=⟨r,3,none⟩) (.inr rfl) _).alloc _).alloc _⟩
theorem QBl{w:World}{b B:Nat}{cs:Array Value}{t:TypeId}(h:Qca w b cs t)(Hn:b≠B)(x0 x1 x2 x3 x4 x5:Value):Qca (Q3k w B x0 x1 x2 x3 x4 x5) b cs t:=
 (((((h.other ⟨B,0,none⟩ x0 Hn).other ⟨B,1,none⟩ x1 Hn).other ⟨B,2,none⟩ x2 Hn).other ⟨B,3,none⟩ x3 Hn).other ⟨B,4,none⟩ x4 Hn).other ⟨B,5,none⟩ x5 Hn
theorem Qob.six{w:World}{r B:Nat}{file:Int}{L:List Tok}{lv ov:Value}{k:Nat}{c:Int}{cs:Array Value}(h:Qob w r file L lv ov k c)(hB:Qca w B cs 65)(x0 x1 x2 x3 x4 x5:Value):Qob (Q3k w B x0 x1 x2 x3 x4 x5) r file L lv ov k c:=
 h.one hB (by decide) (by decide) (Qwd (S:=(· = B)) (Qaa.refl _ w) (.inr rfl) x0 x1 x2 x3 x4 x5)
def Qbg(r base:Nat)(file:Int)(L:List Tok)(lv ov:Value)(i:Nat)(D:List Qwa)(kind:Int)(s:List UInt8)(w:World)(e:Ending)(w':World):Prop:=
 e = .returned (.tuple #[Qfb file (tkN L i),.bool (isK L i kind s)])∧Qaa (· = r) w w'∧(isK L i kind s=true→QUa w' r base file L lv ov (i+1) D)∧(isK L i kind s=false→Qob w' r file L lv ov i 6)
set_option maxRecDepth 100000 in
theorem Qii(w:World)(r base:Nat)(file:Int)(L:List Tok)(lv ov:Value)(i:Nat)(D:List Qwa)(h:QUa w r base file L lv ov i D)(kind:Int)(s:List UInt8)(gE:kind≠8) :
 Calls Tryz.prog 93 #[.pointer (some ⟨r,0,none⟩),.int .i64 kind,.string ⟨s.toArray⟩] w (Qbg r base file L lv ov i D kind s w):=by
 have ke:=h.holds.lt
 have gR:Below w.heap.size w (w.alloc (.cells #[.int .i64 0,.string ⟨#[]⟩,.int .i64 0,.int .i64 0,.int .i64 0,.int .i64 0] 65)):=(Below.refl _ _).alloc (Nat.le_refl _) _
 have fD:=Qca.new w #[.int .i64 0,.string ⟨#[]⟩,.int .i64 0,.int .i64 0,.int .i64 0,.int .i64 0] 65
 have HH:=hid h
 have hn:=QOc _ r base file L lv ov i D (h.keeps (Qaa.of_fresh gR (fun _=>False)))
 have gF:isK L i kind s=true→i+1<L.length:=fun hk=>h.ok.next h.lt (by unfold isK at hk;simp only[Bool.and_eq_true,decide_eq_true_eq]at hk;rw[hk.1];exact gE)
 have gU:=hid gF
 have oK:(i:Int)<10000:=by have:=h.ok.len;have:=h.lt;omega
 have mp:=hid (fun wx hx=>Qdd wx r base file L lv ov i D hx kind s)
 have Gz:=hid (fun wx hx=>QNc wx r base file L lv ov i D hx i 6)
 unfold Qbg
 unfold Qfb at hn Gz ⊢
 generalize tkN L i=t at *
 obtain⟨t0,t1,t2,t3,t4⟩:=t
 simp only at hn Gz ⊢
 clear gF h
 go_enter Tryz.func93,Tryz.ntmps93
 go_wp2_with fail
 generalize w.alloc (.cells #[.int .i64 0,.string ⟨#[]⟩,.int .i64 0,.int .i64 0,.int .i64 0,.int .i64 0] 65)=w0 at *
 refine hn.mono ?_
 rintro e w1 ⟨rfl,Hf⟩
 have g9:Qaa (fun _=>False) w w1:=(Qaa.of_fresh gR (fun _=>False)).trans (Qaa.of_fresh Hf (fun _=>False)) (fun _ _ e=>e)
 have nP:=fD.keeps (Qaa.of_fresh Hf (fun _=>False)) (fun e=>e)
 have uY:=nP.alloc (.cells #[.int .i64 t0,.string ⟨t1.toArray⟩,.int .i64 t2,.int .i64 file,.int .i64 t3,.int .i64 t4] 65)
 have G1:=Qca.new w1 #[.int .i64 t0,.string ⟨t1.toArray⟩,.int .i64 t2,.int .i64 file,.int .i64 t3,.int .i64 t4] 65
 have ga:=g9.alloc (.cells #[.int .i64 t0,.string ⟨t1.toArray⟩,.int .i64 t2,.int .i64 file,.int .i64 t3,.int .i64 t4] 65)
 have wV:=Hf.size
 have wU:=fD.lt
 clear gR fD hn Hf nP g9
 go_wp2_with fail
 generalize w1.alloc (.cells #[.int .i64 t0,.string ⟨t1.toArray⟩,.int .i64 t2,.int .i64 file,.int .i64 t3,.int .i64 t4] 65)=w2 at *
 refine(mp.out w2 (HH.out.keeps ga)).mono ?_
 rintro e w3 ⟨rfl,gm⟩
 have gc:=ga.trans (Qaa.of_fresh gm (fun _=>False)) (fun _ _ e=>e)
 have nQ:=uY.keeps (Qaa.of_fresh gm (fun _=>False)) (fun e=>e)
 have kc:=G1.keeps (Qaa.of_fresh gm (fun _=>False)) (fun e=>e)
 have uq:=hid (HH.out.keeps gc)
 have KA:=nQ.lt
 have KW:=kc.lt
 have gi:r≠w.heap.size:=by omega
 have gT:r≠w1.heap.size:=by omega
 have ny:w.heap.size≠w1.heap.size:=by omega
 obtain⟨m0,m1,m2,m3,m4,m5⟩:=Qga kc
 obtain⟨f0,f1,f2,f3,f4,f5⟩:=QWb nQ
 obtain⟨n0,n1,n2,n3,n4,n5⟩:=Qga nQ
 have gh:=hid gc
 have ud:=hid nQ
 clear ga uY G1 gm gc nQ
 cases hk:isK L i kind s with
 | true=>
  have Hh:=gU.out hk
  have cH:=uq.out.holds
  have c1:w3.cell? ⟨r,1,none⟩=some (.int .i64 i):=cH.cell 1
  have c1f:=cH.free 1
  have crl:=cH.lt
  go_wp2_with fail
  have e1:(i:Int)+1=((i+1:Nat):Int):=by omega
  have kw:=Qwd ((gh.out.mono (S:=(· = r)) (fun _ _ e=>e.elim)).setCell (p:=⟨r,1,none⟩) (.inr rfl) (.int .i64 ((i:Int)+1))) (B:=w.heap.size) (.inl (Nat.le_refl _)) (.int .i64 t0) (.string ⟨t1.toArray⟩) (.int .i64 t2) (.int .i64 file) (.int .i64 t3) (.int .i64 t4)
  have nS:=Qgi (ud.out.other ⟨r,1,none⟩ (.int .i64 ((i:Int)+1)) (Ne.symm gi)) (.int .i64 t0) (.string ⟨t1.toArray⟩) (.int .i64 t2) (.int .i64 file) (.int .i64 t3) (.int .i64 t4)
  have dO:=QBl (B:=w.heap.size) (cH.set 1 (.int .i64 ((i:Int)+1))) gi (.int .i64 t0) (.string ⟨t1.toArray⟩) (.int .i64 t2) (.int .i64 file) (.int .i64 t3) (.int .i64 t4)
  have Hg:=HH.out.turn (j:=i+1) kw (by rw[←e1];exact dO) Hh (by omega)
  unfold Q3k at nS Hg kw
  obtain⟨q0,q1,q2,q3,q4,q5⟩:=Qga nS
  exact bodyPost_ret (v:=.tuple #[.agg #[.int .i64 t0,.string ⟨t1.toArray⟩,.int .i64 t2,.int .i64 file,.int .i64 t3,.int .i64 t4],.bool true]) (by simp[results,Tryz.results93,go_sem,q0,q1,q2,q3,q4,q5]) rfl ⟨by rw[hk],kw,fun _=>Hg,fun e=>(by rw[hk]at e;cases e)⟩
 | false=>
  go_wp2_with fail
  go_region_with (go_at_call 59;refine(Gz.out _ (by exact uq.out.keeps ((Qaa.refl _ _).drew))).mono ?_;rintro e w4 ⟨rfl,Hj,Hr⟩;have cr:=ud.out.drew.keeps Hr (fun e=>gi e.symm);have mO:=kc.drew.keeps Hr (fun e=>gT e.symm);obtain⟨y0,y1,y2,y3,y4,y5⟩:=Qga mO;obtain⟨v0,v1,v2,v3,v4,v5⟩:=Qga cr;obtain⟨z0,z1,z2,z3,z4,z5⟩:=QWb cr;have qE:=cr.lt)
  all_goals
   go_wp2_with fail
   have kw:=Qwd (((gh.out.mono (S:=(· = r)) (fun _ _ e=>e.elim)).drew).trans Hr (fun _ _ e=>e)) (B:=w.heap.size) (.inl (Nat.le_refl _)) (.int .i64 t0) (.string ⟨t1.toArray⟩) (.int .i64 t2) (.int .i64 file) (.int .i64 t3) (.int .i64 t4)
   have nS:=Qgi cr (.int .i64 t0) (.string ⟨t1.toArray⟩) (.int .i64 t2) (.int .i64 file) (.int .i64 t3) (.int .i64 t4)
   have Hg:=Hj.six cr (.int .i64 t0) (.string ⟨t1.toArray⟩) (.int .i64 t2) (.int .i64 file) (.int .i64 t3) (.int .i64 t4)
   unfold Q3k at nS Hg kw
   obtain⟨q0,q1,q2,q3,q4,q5⟩:=Qga nS
   exact bodyPost_ret (v:=.tuple #[.agg #[.int .i64 t0,.string ⟨t1.toArray⟩,.int .i64 t2,.int .i64 file,.int .i64 t3,.int .i64 t4],.bool false]) (by simp[results,Tryz.results93,go_sem,q0,q1,q2,q3,q4,q5]) rfl ⟨by rw[hk],kw,fun e=>(by rw[hk]at e;cases e),fun _=>Hg⟩
def QTc(r base:Nat)(file:Int)(L:List Tok)(lv ov:Value)(i:Nat)(D:List Qwa)(s:List UInt8)(w:World)(e:Ending)(w':World):Prop:=
 e = .returned (.bool (isK L i 4 s))∧Qaa (· = r) w w'∧(isK L i 4 s=true→QUa w' r base file L lv ov (i+1) D)∧(isK L i 4 s=false→Qob w' r file L lv ov i 6)
theorem Qob.alloc{w:World}{r:Nat}{file:Int}{L:List Tok}{lv ov:Value}{k:Nat}{c:Int}(h:Qob w r file L lv ov k c)(o:Obj):Qob (w.alloc o) r file L lv ov k c:=h.new ((Qaa.refl _ w).alloc o)
theorem QUa.alloc{w:World}{r base:Nat}{file:Int}{L:List Tok}{lv ov:Value}{i:Nat}{D:List Qwa}(h:QUa w r base file L lv ov i D)(o:Obj):QUa (w.alloc o) r base file L lv ov i D:=h.keeps ((Qaa.refl _ w).alloc o)
set_option maxRecDepth 100000 in
theorem Qed(w:World)(r base:Nat)(file:Int)(L:List Tok)(lv ov:Value)(i:Nat)(D:List Qwa)(h:QUa w r base file L lv ov i D)(s:List UInt8) :
 Calls Tryz.prog 54 #[.pointer (some ⟨r,0,none⟩),.string ⟨s.toArray⟩] w (QTc r base file L lv ov i D s w):=by
 have ht:=Qii w r base file L lv ov i D h 4 s (by decide)
 unfold Qbg Qfb at ht
 unfold QTc
 clear h
 generalize isK L i 4 s=b at *
 go_enter Tryz.func54,Tryz.ntmps54
 go_wp2_with fail
 refine ht.mono ?_
 rintro e w1 ⟨rfl,hk,h1,h2⟩
 have H1:=hid h1
 have H2:=hid h2
 clear h1 h2
 go_wp2_with fail
 go_ret
 exact⟨rfl,hk.alloc _,fun e=>(H1.out e).alloc _,fun e=>(H2.out e).alloc _⟩
def Q7c(r base:Nat)(file:Int)(L:List Tok)(lv ov:Value)(i:Nat)(D:List Qwa)(kind:Int)(right:List UInt8→Bool)(w:World)(e:Ending)(w':World):Prop:=
 Qaa (· = r) w w'∧match Qja L kind right i with
  | .ok j=>e = .returned (.tuple #[Qfb file (tkN L i),.bool true])∧QUa w' r base file L lv ov j D
  | .error (k,c)=>e = .returned (.tuple #[Qfb file (tkN L i),.bool false])∧Qob w' r file L lv ov k c
end Go.Proofs.YtofhcgbihonckaaGreat
