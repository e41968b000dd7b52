/- The reader of source: next, is, fail, take, sign. | The reader of source: fail, take, sign. -/
import Derived.Test.YtgaboghigefgbaaGreatDoorZ15
import Derived.Test.YtgaboghigefgbaaGreatDoorZ10
import Derived.StillTailTactics
import Derived.Deep.RegionHeld3
import Derived.Deep.RegionWith
set_option linter.all false
set_option maxHeartbeats 8000000
namespace Go.Proofs.YtgaboghigefgbaaGreatDoor
open Go.Lib (hid)
open Go.RowKit
theorem Qjs{L:List Tok}{i:Nat}(h:i<L.length):tkN L i=L[i]:=by unfold tkN;rw[List.getD_eq_getElem?_getD,List.getElem?_eq_getElem h];rfl
theorem Quh.at{B:Nat}{w:World}{v:Value}{file:Int}{L:List Tok}{i:Nat}(h:Quh B w v file L)(hi:i<L.length):∃g cap,v = .slice (some ⟨g,0,none⟩) L.length cap∧g<B∧
 w.cell? ⟨g,i*6,none⟩=some (.int .i64 (tkN L i).kind)∧w.cell? ⟨g,i*6+1,none⟩=some (.string ⟨(tkN L i).text.toArray⟩)∧w.cell? ⟨g,i*6+2,none⟩=some (.int .i64 (tkN L i).value)∧
 w.cell? ⟨g,i*6+3,none⟩=some (.int .i64 file)∧w.cell? ⟨g,i*6+4,none⟩=some (.int .i64 (tkN L i).line)∧w.cell? ⟨g,i*6+5,none⟩=some (.int .i64 (tkN L i).col):=by
 obtain⟨g,cap,e,hg,hc⟩:=h
 rw[Qjs hi,Nat.mul_comm i 6]
 exact⟨g,cap,e,hg,hc i hi 0 _ rfl,hc i hi 1 _ rfl,hc i hi 2 _ rfl,hc i hi 3 _ rfl,hc i hi 4 _ rfl,hc i hi 5 _ rfl⟩
theorem LOk.at{L:List Tok}(h:LOk L)(i:Nat):(tkN L i).text.length≤16000:=by
 by_cases hi:i<L.length
 ·rw[Qjs hi];exact h.text _ (List.getElem_mem hi)
 ·unfold tkN;rw[List.getD_eq_getElem?_getD,List.getElem?_eq_none (by omega)];simp
section
variable{w w':World}{r base:Nat}{file:Int}{L:List Tok}{lv ov:Value}{i:Nat}{D:List Qxc}
theorem Q7a.keeps(h:Q7a w r base file L lv ov i D)(k:Qaa (fun _=>False) w w'):Q7a w' r base file L lv ov i D:=
 ⟨h.holds.keeps k (fun e=>e),h.toks.keeps k (fun _ e=>e.elim),h.defs.keeps k (Qyc.nil _),h.low,Nat.le_trans h.size k.size,h.lt,h.ok,h.cnt⟩
theorem Q7a.turn(h:Q7a w r base file L lv ov i D)(k:Qaa (· = r) w w'){j:Nat}(hH:Holds w' r #[lv,.int .i64 j,ov,.pointer none] 148)(hj:j<L.length)(kt:i≤j):Q7a w' r base file L lv ov j D:=
 ⟨hH,h.toks.keeps k (fun b e=>by cases e;exact h.low),h.defs.keeps k (Qyc.one h.holds (by decide) (by decide) (by decide)),h.low,Nat.le_trans h.size k.size,hj,h.ok,Nat.le_trans h.cnt kt⟩
end
def Q9m(w:World)(B:Nat)(x0 x1 x2 x3 x4 x5:Value):World:=(((((w.setCell ⟨B,0,none⟩ x0).setCell ⟨B,1,none⟩ x1).setCell ⟨B,2,none⟩ x2).setCell ⟨B,3,none⟩ x3).setCell ⟨B,4,none⟩ x4).setCell ⟨B,5,none⟩ x5
theorem QNj{w:World}{B:Nat}{a b c d e f:Value}{t:TypeId}(h:Holds w B #[a,b,c,d,e,f] t)(x0 x1 x2 x3 x4 x5:Value):Holds (Q9m w B x0 x1 x2 x3 x4 x5) B #[x0,x1,x2,x3,x4,x5] t:=by
 have:=(((((h.set 0 x0).set 1 x1).set 2 x2).set 3 x3).set 4 x4).set 5 x5
 exact this
theorem Qra{w:World}{B:Nat}{x0 x1 x2 x3 x4 x5:Value}{t:TypeId}(h:Holds w B #[x0,x1,x2,x3,x4,x5] t) :
 w.cell? ⟨B,0,none⟩=some x0∧w.cell? ⟨B,1,none⟩=some x1∧w.cell? ⟨B,2,none⟩=some x2∧w.cell? ⟨B,3,none⟩=some x3∧w.cell? ⟨B,4,none⟩=some x4∧w.cell? ⟨B,5,none⟩=some x5:=
 ⟨h.cell 0,h.cell 1,h.cell 2,h.cell 3,h.cell 4,h.cell 5⟩
theorem Qkg{w:World}{B:Nat}{x0 x1 x2 x3 x4 x5:Value}{t:TypeId}(h:Holds w B #[x0,x1,x2,x3,x4,x5] t) :
 w.frozen? ⟨B,0,none⟩=false∧w.frozen? ⟨B,1,none⟩=false∧w.frozen? ⟨B,2,none⟩=false∧w.frozen? ⟨B,3,none⟩=false∧w.frozen? ⟨B,4,none⟩=false∧w.frozen? ⟨B,5,none⟩=false:=
 ⟨h.free 0,h.free 1,h.free 2,h.free 3,h.free 4,h.free 5⟩
theorem Q9d{w:World}{a:World}{B:Nat}{S:Nat→Prop}(h:Qaa S a w)(hB:a.heap.size≤B∨S B)(x0 x1 x2 x3 x4 x5:Value):Qaa S a (Q9m w B x0 x1 x2 x3 x4 x5):=
 ((((((h.setCell (p:=⟨B,0,none⟩) hB x0).setCell (p:=⟨B,1,none⟩) hB x1).setCell (p:=⟨B,2,none⟩) hB x2).setCell (p:=⟨B,3,none⟩) hB x3).setCell (p:=⟨B,4,none⟩) hB x4).setCell (p:=⟨B,5,none⟩) hB x5)
set_option maxRecDepth 100000 in
theorem Q8c(w:World)(r base:Nat)(file:Int)(L:List Tok)(lv ov:Value)(i:Nat)(D:List Qxc)(h:Q7a w r base file L lv ov i D) :
 Calls Tryz.prog 121 #[.pointer (some ⟨r,0,none⟩)] w fun e w'=>e = .returned (QHb file (tkN L i))∧Below w.heap.size w w':=by
 obtain⟨g,cap,rfl,hg,d0,d1,d2,d3,d4,d5⟩:=h.toks.at h.lt
 have hL:=h.ok.len
 have hi:=h.lt
 have iI:(i:Int)<(L.length:Int):=by omega
 have c0:=h.holds.cell 0
 have c1:=h.holds.cell 1
 have cl:=h.holds.lt
 have gl:=World.block_lt_of_cell? w _ d0
 unfold QHb
 generalize tkN L i=t at *
 obtain⟨t0,t1,t2,t3,t4⟩:=t
 simp only at d0 d1 d2 d3 d4 d5 gl
 clear h
 have hN:=Holds.new w #[.int .i64 0,.string ⟨#[]⟩,.int .i64 0,.int .i64 0,.int .i64 0,.int .i64 0] 150
 have hb:Below w.heap.size w (w.alloc (.cells #[.int .i64 0,.string ⟨#[]⟩,.int .i64 0,.int .i64 0,.int .i64 0,.int .i64 0] 150)):=(Below.refl _ _).alloc (Nat.le_refl _) _
 have c0':=(hb.cell cl).trans c0
 have c1':=(hb.cell cl).trans c1
 have d0':=(hb.cell gl).trans d0
 have d1':=(hb.cell gl).trans d1
 have d2':=(hb.cell gl).trans d2
 have d3':=(hb.cell gl).trans d3
 have d4':=(hb.cell gl).trans d4
 have d5':=(hb.cell gl).trans d5
 clear c0 c1 d0 d1 d2 d3 d4 d5
 go_enter Tryz.func121,Tryz.ntmps121
 go_wp2_with fail
 generalize w.alloc (.cells #[.int .i64 0,.string ⟨#[]⟩,.int .i64 0,.int .i64 0,.int .i64 0,.int .i64 0] 150)=w0 at *
 have Hh:=hN.lt
 obtain⟨f0,f1,f2,f3,f4,f5⟩:=Qkg hN
 obtain⟨m0,m1,m2,m3,m4,m5⟩:=Qra hN
 go_still_tail 10,(by kernel_rfl)
 go_wp2_with fail
 have hS:=(QNj hN (.int .i64 t0) (.string ⟨t1.toArray⟩) (.int .i64 t2) (.int .i64 file) (.int .i64 t3) (.int .i64 t4)).drew
 unfold Q9m at hS
 obtain⟨q0,q1,q2,q3,q4,q5⟩:=Qra hS
 exact bodyPost_ret (v:=.agg #[.int .i64 t0,.string ⟨t1.toArray⟩,.int .i64 t2,.int .i64 file,.int .i64 t3,.int .i64 t4]) (by simp[results,Tryz.results121,go_sem,q0,q1,q2,q3,q4,q5]) rfl ⟨rfl,(((((((hb.setCell (Nat.le_refl _) _).setCell (Nat.le_refl _) _).setCell (Nat.le_refl _) _).setCell (Nat.le_refl _) _).setCell (Nat.le_refl _) _).setCell (Nat.le_refl _) _).drew)⟩
set_option maxRecDepth 100000 in
theorem QJd(w:World)(r base:Nat)(file:Int)(L:List Tok)(lv ov:Value)(i:Nat)(D:List Qxc)(h:Q7a w r base file L lv ov i D)(kind:Int)(s:List UInt8) :
 Calls Tryz.prog 165 #[.pointer (some ⟨r,0,none⟩),.int .i64 kind,.string ⟨s.toArray⟩] w fun e w'=>e = .returned (.bool (isK L i kind s))∧Below w.heap.size w w':=by
 have hn:=Q8c w r base file L lv ov i D h
 have hK:=hid (show isK L i kind s=(decide ((tkN L i).kind=kind) && (s.isEmpty || decide ((tkN L i).text=s)))from rfl)
 unfold QHb at hn
 generalize tkN L i=t at *
 obtain⟨t0,t1,t2,t3,t4⟩:=t
 simp only at hn hK
 clear h
 go_enter Tryz.func165,Tryz.ntmps165
 go_wp2_with fail
 refine hn.mono ?_
 rintro e w1 ⟨rfl,hb⟩
 have hN:=Holds.new w1 #[.int .i64 t0,.string ⟨t1.toArray⟩,.int .i64 t2,.int .i64 file,.int .i64 t3,.int .i64 t4] 150
 have Hc:Below w.heap.size w (w1.alloc (.cells #[.int .i64 t0,.string ⟨t1.toArray⟩,.int .i64 t2,.int .i64 file,.int .i64 t3,.int .i64 t4] 150)):=hb.alloc hb.size _
 obtain⟨m0,m1,m2,m3,m4,m5⟩:=Qra hN
 by_cases hk:t0=kind
 ·subst hk
  by_cases hs:s=[]
  ·subst hs
   go_wp2_with fail
   go_ret
   exact⟨Qha (by rw[hK.out];simp),Hc⟩
  ·have Hm:(s == [])=false:=by rw[beq_eq_false_iff_ne];exact hs
   have C5:s.isEmpty=false:=by simpa using hs
   have HS:=hid hs
   clear hs
   by_cases ht:t1=s
   ·have HT:=hid ht
    subst ht
    go_wp2_with fail
    go_ret
    exact⟨Qha (by rw[hK.out];simp),Hc⟩
   ·have BJ:(t1 == s)=false:=by rw[beq_eq_false_iff_ne];exact ht
    have HT:=hid ht
    clear ht
    go_wp2_with fail
    go_ret
    exact⟨Qha (by rw[hK.out,C5,decide_eq_false HT.out];simp[HT.out]),Hc⟩
 ·have eS:(t0 == kind)=false:=by rw[beq_eq_false_iff_ne];exact hk
  go_wp2_with fail
  go_ret
  exact⟨Qha (by rw[hK.out];simp[hk]),Hc⟩
set_option maxRecDepth 100000 in
theorem Q7c(w:World)(r base:Nat)(file:Int)(L:List Tok)(lv ov:Value)(i:Nat)(D:List Qxc)(h:Q7a w r base file L lv ov i D)(k:Nat)(c:Int) :
 Calls Tryz.prog 168 #[.pointer (some ⟨r,0,none⟩),QHb file (tkN L k),.int .i64 c] w fun e w'=>e = .returned (.bool false)∧QBb w' r file L lv ov k c∧Qaa (· = r) w w':=by
 have Bb:=hid (show ∀(wx:World) (x:Value) (f:Nat),Holds wx r #[lv,x,ov,.pointer (some ⟨f,0,none⟩)] 148→Holds wx f #[.int .i64 file,.int .i64 (tkN L k).line,.int .i64 (tkN L k).col,.int .i64 c] 153→QBb wx r file L lv ov k c from fun wx x f h1 h2=>⟨x,f,h1,h2⟩)
 unfold QHb
 generalize tkN L k=t at *
 obtain⟨t0,t1,t2,t3,t4⟩:=t
 simp only at Bb ⊢
 have hH:=h.holds
 have cl:=hH.lt
 clear h
 have hN:=Holds.new w #[.int .i64 t0,.string ⟨t1.toArray⟩,.int .i64 t2,.int .i64 file,.int .i64 t3,.int .i64 t4] 150
 have Gm:=hH.alloc (.cells #[.int .i64 t0,.string ⟨t1.toArray⟩,.int .i64 t2,.int .i64 file,.int .i64 t3,.int .i64 t4] 150)
 have gf:=(Qaa.refl (· = r) w).alloc (.cells #[.int .i64 t0,.string ⟨t1.toArray⟩,.int .i64 t2,.int .i64 file,.int .i64 t3,.int .i64 t4] 150)
 have c3:(w.alloc (.cells #[.int .i64 t0,.string ⟨t1.toArray⟩,.int .i64 t2,.int .i64 file,.int .i64 t3,.int .i64 t4] 150)).cell? ⟨r,3,none⟩=some (.pointer none):=Gm.cell 3
 have c3f:=hH.free 3
 have hsz:(w.alloc (.cells #[.int .i64 t0,.string ⟨t1.toArray⟩,.int .i64 t2,.int .i64 file,.int .i64 t3,.int .i64 t4] 150)).heap.size=w.heap.size+1:=by simp
 obtain⟨m0,m1,m2,m3,m4,m5⟩:=Qra hN
 go_enter Tryz.func168,Tryz.ntmps168
 go_wp2_with fail
 go_ret
 exact⟨rfl,Bb.out _ (.int .i64 i) (w.heap.size+1) (((hH.set 3 _).alloc _).alloc _) (Holds.newAt (by simp) _ _),(((Qaa.refl (· = r) w).setCell (p:=⟨r,3,none⟩) (.inr rfl) _).alloc _).alloc _⟩
theorem Qpo{w:World}{b B:Nat}{cs:Array Value}{t:TypeId}(h:Holds w b cs t)(Hm:b≠B)(x0 x1 x2 x3 x4 x5:Value):Holds (Q9m w B x0 x1 x2 x3 x4 x5) b cs t:=
 (((((h.other ⟨B,0,none⟩ x0 Hm).other ⟨B,1,none⟩ x1 Hm).other ⟨B,2,none⟩ x2 Hm).other ⟨B,3,none⟩ x3 Hm).other ⟨B,4,none⟩ x4 Hm).other ⟨B,5,none⟩ x5 Hm
theorem QBb.six{w:World}{r B:Nat}{file:Int}{L:List Tok}{lv ov:Value}{k:Nat}{c:Int}{cs:Array Value}(h:QBb w r file L lv ov k c)(hB:Holds w B cs 150)(x0 x1 x2 x3 x4 x5:Value):QBb (Q9m w B x0 x1 x2 x3 x4 x5) r file L lv ov k c:=
 h.one hB (by decide) (by decide) (Q9d (S:=(· = B)) (Qaa.refl _ w) (.inr rfl) x0 x1 x2 x3 x4 x5)
def Qth(r base:Nat)(file:Int)(L:List Tok)(lv ov:Value)(i:Nat)(D:List Qxc)(kind:Int)(s:List UInt8)(w:World)(e:Ending)(w':World):Prop:=
 e = .returned (.tuple #[QHb file (tkN L i),.bool (isK L i kind s)])∧Qaa (· = r) w w'∧(isK L i kind s=true→Q7a w' r base file L lv ov (i+1) D)∧(isK L i kind s=false→QBb w' r file L lv ov i 6)
set_option maxRecDepth 100000 in
theorem QOj(w:World)(r base:Nat)(file:Int)(L:List Tok)(lv ov:Value)(i:Nat)(D:List Qxc)(h:Q7a w r base file L lv ov i D)(kind:Int)(s:List UInt8)(kQ:kind≠8) :
 Calls Tryz.prog 198 #[.pointer (some ⟨r,0,none⟩),.int .i64 kind,.string ⟨s.toArray⟩] w (Qth r base file L lv ov i D kind s w):=by
 have gN:=h.holds.lt
 have He:Below w.heap.size w (w.alloc (.cells #[.int .i64 0,.string ⟨#[]⟩,.int .i64 0,.int .i64 0,.int .i64 0,.int .i64 0] 150)):=(Below.refl _ _).alloc (Nat.le_refl _) _
 have mc:=Holds.new w #[.int .i64 0,.string ⟨#[]⟩,.int .i64 0,.int .i64 0,.int .i64 0,.int .i64 0] 150
 have HH:=hid h
 have hn:=Q8c _ r base file L lv ov i D (h.keeps (Qaa.of_fresh He (fun _=>False)))
 have Gi:isK L i kind s=true→i+1<L.length:=fun hk=>h.ok.next h.lt (by unfold isK at hk;simp only[Bool.and_eq_true,decide_eq_true_eq]at hk;rw[hk.1];exact kQ)
 have M9:=hid Gi
 have sy:(i:Int)<10000:=by have:=h.ok.len;have:=h.lt;omega
 have Ca:=hid (fun wx hx=>QJd wx r base file L lv ov i D hx kind s)
 have GD:=hid (fun wx hx=>Q7c wx r base file L lv ov i D hx i 6)
 unfold Qth
 unfold QHb at hn GD ⊢
 generalize tkN L i=t at *
 obtain⟨t0,t1,t2,t3,t4⟩:=t
 simp only at hn GD ⊢
 clear Gi h
 go_enter Tryz.func198,Tryz.ntmps198
 go_wp2_with fail
 generalize w.alloc (.cells #[.int .i64 0,.string ⟨#[]⟩,.int .i64 0,.int .i64 0,.int .i64 0,.int .i64 0] 150)=w0 at *
 refine hn.mono ?_
 rintro e w1 ⟨rfl,Hb⟩
 have Gg:Qaa (fun _=>False) w w1:=(Qaa.of_fresh He (fun _=>False)).trans (Qaa.of_fresh Hb (fun _=>False)) (fun _ _ e=>e)
 have JZ:=mc.keeps (Qaa.of_fresh Hb (fun _=>False)) (fun e=>e)
 have uL:=JZ.alloc (.cells #[.int .i64 t0,.string ⟨t1.toArray⟩,.int .i64 t2,.int .i64 file,.int .i64 t3,.int .i64 t4] 150)
 have GZ:=Holds.new w1 #[.int .i64 t0,.string ⟨t1.toArray⟩,.int .i64 t2,.int .i64 file,.int .i64 t3,.int .i64 t4] 150
 have gf:=Gg.alloc (.cells #[.int .i64 t0,.string ⟨t1.toArray⟩,.int .i64 t2,.int .i64 file,.int .i64 t3,.int .i64 t4] 150)
 have Cz:=Hb.size
 have qR:=mc.lt
 clear He mc hn Hb JZ Gg
 go_wp2_with fail
 generalize w1.alloc (.cells #[.int .i64 t0,.string ⟨t1.toArray⟩,.int .i64 t2,.int .i64 file,.int .i64 t3,.int .i64 t4] 150)=w2 at *
 refine(Ca.out w2 (HH.out.keeps gf)).mono ?_
 rintro e w3 ⟨rfl,Hi⟩
 have gu:=gf.trans (Qaa.of_fresh Hi (fun _=>False)) (fun _ _ e=>e)
 have az:=uL.keeps (Qaa.of_fresh Hi (fun _=>False)) (fun e=>e)
 have GQ:=GZ.keeps (Qaa.of_fresh Hi (fun _=>False)) (fun e=>e)
 have Ap:=hid (HH.out.keeps gu)
 have GO:=az.lt
 have Ge:=GQ.lt
 have Hx:r≠w.heap.size:=by omega
 have gd:r≠w1.heap.size:=by omega
 have jd:w.heap.size≠w1.heap.size:=by omega
 obtain⟨m0,m1,m2,m3,m4,m5⟩:=Qra GQ
 obtain⟨f0,f1,f2,f3,f4,f5⟩:=Qkg az
 obtain⟨n0,n1,n2,n3,n4,n5⟩:=Qra az
 have Mg:=hid gu
 have Ad:=hid az
 clear gf uL GZ Hi gu az
 cases hk:isK L i kind s with
 | true=>
  have Hh:=M9.out hk
  have cH:=Ap.out.holds
  have c1:w3.cell? ⟨r,1,none⟩=some (.int .i64 i):=cH.cell 1
  have c1f:=cH.free 1
  have crl:=cH.lt
  go_wp2_with fail
  have e1:(i:Int)+1=((i+1:Nat):Int):=by omega
  have kw:=Q9d ((Mg.out.mono (S:=(· = r)) (fun _ _ e=>e.elim)).setCell (p:=⟨r,1,none⟩) (.inr rfl) (.int .i64 ((i:Int)+1))) (B:=w.heap.size) (.inl (Nat.le_refl _)) (.int .i64 t0) (.string ⟨t1.toArray⟩) (.int .i64 t2) (.int .i64 file) (.int .i64 t3) (.int .i64 t4)
  have lV:=QNj (Ad.out.other ⟨r,1,none⟩ (.int .i64 ((i:Int)+1)) (Ne.symm Hx)) (.int .i64 t0) (.string ⟨t1.toArray⟩) (.int .i64 t2) (.int .i64 file) (.int .i64 t3) (.int .i64 t4)
  have fZ:=Qpo (B:=w.heap.size) (cH.set 1 (.int .i64 ((i:Int)+1))) Hx (.int .i64 t0) (.string ⟨t1.toArray⟩) (.int .i64 t2) (.int .i64 file) (.int .i64 t3) (.int .i64 t4)
  have Hn:=HH.out.turn (j:=i+1) kw (by rw[←e1];exact fZ) Hh (by omega)
  unfold Q9m at lV Hn kw
  obtain⟨q0,q1,q2,q3,q4,q5⟩:=Qra lV
  exact bodyPost_ret (v:=.tuple #[.agg #[.int .i64 t0,.string ⟨t1.toArray⟩,.int .i64 t2,.int .i64 file,.int .i64 t3,.int .i64 t4],.bool true]) (by simp[results,Tryz.results198,go_sem,q0,q1,q2,q3,q4,q5]) rfl ⟨by rw[hk],kw,fun _=>Hn,fun e=>(by rw[hk]at e;cases e)⟩
 | false=>
  go_wp2_with fail
  go_region_with (go_at_call 168;refine(GD.out _ (by exact Ap.out.keeps ((Qaa.refl _ _).drew))).mono ?_;rintro e w4 ⟨rfl,Hq,gA⟩;have cX:=Ad.out.drew.keeps gA (fun e=>Hx e.symm);have mx:=GQ.drew.keeps gA (fun e=>gd e.symm);obtain⟨y0,y1,y2,y3,y4,y5⟩:=Qra mx;obtain⟨v0,v1,v2,v3,v4,v5⟩:=Qra cX;obtain⟨z0,z1,z2,z3,z4,z5⟩:=Qkg cX;have Bx:=cX.lt)
  all_goals
   go_wp2_with fail
   have kw:=Q9d (((Mg.out.mono (S:=(· = r)) (fun _ _ e=>e.elim)).drew).trans gA (fun _ _ e=>e)) (B:=w.heap.size) (.inl (Nat.le_refl _)) (.int .i64 t0) (.string ⟨t1.toArray⟩) (.int .i64 t2) (.int .i64 file) (.int .i64 t3) (.int .i64 t4)
   have lV:=QNj cX (.int .i64 t0) (.string ⟨t1.toArray⟩) (.int .i64 t2) (.int .i64 file) (.int .i64 t3) (.int .i64 t4)
   have Hn:=Hq.six cX (.int .i64 t0) (.string ⟨t1.toArray⟩) (.int .i64 t2) (.int .i64 file) (.int .i64 t3) (.int .i64 t4)
   unfold Q9m at lV Hn kw
   obtain⟨q0,q1,q2,q3,q4,q5⟩:=Qra lV
   exact bodyPost_ret (v:=.tuple #[.agg #[.int .i64 t0,.string ⟨t1.toArray⟩,.int .i64 t2,.int .i64 file,.int .i64 t3,.int .i64 t4],.bool false]) (by simp[results,Tryz.results198,go_sem,q0,q1,q2,q3,q4,q5]) rfl ⟨by rw[hk],kw,fun e=>(by rw[hk]at e;cases e),fun _=>Hn⟩
def Qcd(r base:Nat)(file:Int)(L:List Tok)(lv ov:Value)(i:Nat)(D:List Qxc)(s:List UInt8)(w:World)(e:Ending)(w':World):Prop:=
 e = .returned (.bool (isK L i 4 s))∧Qaa (· = r) w w'∧(isK L i 4 s=true→Q7a w' r base file L lv ov (i+1) D)∧(isK L i 4 s=false→QBb w' r file L lv ov i 6)
theorem QBb.alloc{w:World}{r:Nat}{file:Int}{L:List Tok}{lv ov:Value}{k:Nat}{c:Int}(h:QBb w r file L lv ov k c)(o:Obj):QBb (w.alloc o) r file L lv ov k c:=h.new ((Qaa.refl _ w).alloc o)
theorem Q7a.alloc{w:World}{r base:Nat}{file:Int}{L:List Tok}{lv ov:Value}{i:Nat}{D:List Qxc}(h:Q7a w r base file L lv ov i D)(o:Obj):Q7a (w.alloc o) r base file L lv ov i D:=h.keeps ((Qaa.refl _ w).alloc o)
set_option maxRecDepth 100000 in
theorem QKd(w:World)(r base:Nat)(file:Int)(L:List Tok)(lv ov:Value)(i:Nat)(D:List Qxc)(h:Q7a w r base file L lv ov i D)(s:List UInt8) :
 Calls Tryz.prog 163 #[.pointer (some ⟨r,0,none⟩),.string ⟨s.toArray⟩] w (Qcd r base file L lv ov i D s w):=by
 have ht:=QOj w r base file L lv ov i D h 4 s (by decide)
 unfold Qth QHb at ht
 unfold Qcd
 clear h
 generalize isK L i 4 s=b at *
 go_enter Tryz.func163,Tryz.ntmps163
 go_wp2_with fail
 refine ht.mono ?_
 rintro e w1 ⟨rfl,hk,h1,h2⟩
 have H1:=hid h1
 have H2:=hid h2
 clear h1 h2
 go_wp2_with fail
 go_ret
 exact⟨rfl,hk.alloc _,fun e=>(H1.out e).alloc _,fun e=>(H2.out e).alloc _⟩
def QAd(r base:Nat)(file:Int)(L:List Tok)(lv ov:Value)(i:Nat)(D:List Qxc)(kind:Int)(right:List UInt8→Bool)(w:World)(e:Ending)(w':World):Prop:=
 Qaa (· = r) w w'∧match QZc L kind right i with
  | .ok j=>e = .returned (.tuple #[QHb file (tkN L i),.bool true])∧Q7a w' r base file L lv ov j D
  | .error (k,c)=>e = .returned (.tuple #[QHb file (tkN L i),.bool false])∧QBb w' r file L lv ov k c
end Go.Proofs.YtgaboghigefgbaaGreatDoor
