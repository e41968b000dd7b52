/- bringupref04: the reader in memory; fail, is, take, add behind an error. -/
import Derived.Test.YtofhcgbihonckaaGreatY16
import Derived.Test.YtofhcgbihonckaaGreatY28
import Derived.Test.YtofhcgbihonckaaGreatY3
import Derived.Test.YtofhcgbihonckaaGreatY5
import Derived.Test.YtofhcgbihonckaaGreatY13
import Derived.Deep.RegionWith
import Derived.Deep.LoopGhost
import Derived.Deep.AppendLies
import Derived.Deep.RegionLaw
import Derived.Laws.AppendOwn
import Derived.Laws.OwnMore
set_option linter.all false
set_option maxHeartbeats 8000000
namespace Go.Proofs.YtofhcgbihonckaaGreat
open Go.Lib (hid)
open Go.RowKit
structure QZa(w:World)(r base:Nat)(file:Int)(L:List Tok)(lv ov:Value)(i:Nat)(D:List Qra):Prop where
 holds:Qca w r #[lv,.int .i64 i,ov,.int .i64 0,.int .i64 0,.int .i64 0,.int .i64 0] 78
 toks:QQe base w lv file L
 defs:Q0a w base file ov D
 low:base≤r
 size:base≤w.heap.size
 lt:i<L.length
 ok:LOk L
 cnt:D.length≤2*i+1
def Qyb(w:World)(r:Nat)(file:Int)(L:List Tok)(k:Nat)(c:Int):Prop:=
 c≠0∧∃lv x ov,Qca w r #[lv,x,ov,.int .i64 c,.int .i64 file,.int .i64 (tkN L k).line,.int .i64 (tkN L k).col] 78
section
variable{w w':World}{r base:Nat}{file:Int}{L:List Tok}{lv ov:Value}{i k:Nat}{D:List Qra}{c:Int}
theorem QZa.keeps(h:QZa w r base file L lv ov i D)(k:Qaa (fun _=>False) w w'):QZa w' r base file L lv ov i D:=
 ⟨h.holds.keeps k (fun e=>e),h.toks.keeps k (fun _ e=>e.elim),h.defs.keeps k (QNa.nil _),h.low,Nat.le_trans h.size k.size,h.lt,h.ok,h.cnt⟩
theorem QZa.turn(h:QZa w r base file L lv ov i D)(k:Qaa (· = r) w w'){j:Nat}(hH:Qca w' r #[lv,.int .i64 j,ov,.int .i64 0,.int .i64 0,.int .i64 0,.int .i64 0] 78)(hj:j<L.length)(GH:i≤j):QZa w' r base file L lv ov j D:=
 ⟨hH,h.toks.keeps k (fun b e=>by cases e;exact h.low),h.defs.keeps k (QNa.one h.holds (by decide) (by decide) (by decide)),h.low,Nat.le_trans h.size k.size,hj,h.ok,by have:=h.cnt;omega⟩
theorem QZa.step(h:QZa w r base file L lv ov i D)(hj:i+1<L.length):QZa (w.setCell ⟨r,1,none⟩ (.int .i64 ((i:Int)+1))) r base file L lv ov (i+1) D∧Qaa (· = r) w (w.setCell ⟨r,1,none⟩ (.int .i64 ((i:Int)+1))):=by
 have k:=(Qaa.refl (· = r) w).setCell (p:=⟨r,1,none⟩) (.inr rfl) (.int .i64 ((i:Int)+1))
 exact⟨h.turn k (by rw[show(((i+1:Nat)):Int)=(i:Int)+1 from by omega];exact h.holds.set 1 _) hj (by omega),k⟩
theorem QZa.cells(h:QZa w r base file L lv ov i D):w.cell? ⟨r,0,none⟩=some lv∧w.cell? ⟨r,1,none⟩=some (.int .i64 i)∧w.cell? ⟨r,2,none⟩=some ov∧w.cell? ⟨r,3,none⟩=some (.int .i64 0)∧w.cell? ⟨r,4,none⟩=some (.int .i64 0)∧w.cell? ⟨r,5,none⟩=some (.int .i64 0)∧w.cell? ⟨r,6,none⟩=some (.int .i64 0)∧w.frozen? ⟨r,1,none⟩=false∧w.frozen? ⟨r,2,none⟩=false∧w.frozen? ⟨r,3,none⟩=false∧w.frozen? ⟨r,4,none⟩=false∧w.frozen? ⟨r,5,none⟩=false∧w.frozen? ⟨r,6,none⟩=false∧r<w.heap.size:=
 ⟨h.holds.cell 0,h.holds.cell 1,h.holds.cell 2,h.holds.cell 3,h.holds.cell 4,h.holds.cell 5,h.holds.cell 6,h.holds.free 1,h.holds.free 2,h.holds.free 3,h.holds.free 4,h.holds.free 5,h.holds.free 6,h.holds.lt⟩
theorem QZa.num(h:QZa w r base file L lv ov i D):(i:Int)<(L.length:Int)∧(i:Int)<10000:=by
 have:=h.lt;have:=h.ok.len;omega
theorem Qyb.keeps{S:Nat→Prop}(h:Qyb w r file L k c)(K:Qaa S w w')(hr:¬S r):Qyb w' r file L k c:=by
 obtain⟨h0,lv,x,ov,h⟩:=h;exact⟨h0,lv,x,ov,h.keeps K hr⟩
end
set_option maxRecDepth 100000 in
theorem QCb(w:World)(r base:Nat)(file:Int)(L:List Tok)(lv ov:Value)(i:Nat)(D:List Qra)(h:QZa w r base file L lv ov i D)(c:Int)(hc:c≠0) :
 Calls Tryz.prog 105 #[.pointer (some ⟨r,0,none⟩),.int .i64 c] w fun e w'=>e = .returned (.tuple #[])∧Qyb w' r file L i c∧Qaa (· = r) w w':=by
 have hH:=h.holds
 obtain⟨c0,c1,c2,c3,c4,c5,c6,f1,f2,f3,f4,f5,f6,cl⟩:=h.cells
 obtain⟨n1,n2⟩:=h.num
 obtain⟨g,cap,rfl,hg,d0,d1,d2,d3,d4,d5⟩:=h.toks.at h.lt
 have cx:g≠r:=by have:=h.low;omega
 have gl:=World.block_lt_of_cell? w _ d0
 have HC:=hid hc
 unfold Qyb
 clear h hc d0 d1 d2
 generalize tkN L i=t at *
 obtain⟨t0,t1,t2,t3,t4⟩:=t
 simp only at d3 d4 d5 ⊢
 go_enter Tryz.func105,Tryz.ntmps105
 go_wp2_with fail
 go_region
 go_wp2_with fail
 go_end0
 have Hh:=((((hH.set 3 (.int .i64 c)).set 4 (.int .i64 file)).set 5 (.int .i64 t3)).set 6 (.int .i64 t4)).drew
 have cy:=(((((Qaa.refl (· = r) w).setCell (p:=⟨r,3,none⟩) (.inr rfl) (.int .i64 c)).setCell (p:=⟨r,4,none⟩) (.inr rfl) (.int .i64 file)).setCell (p:=⟨r,5,none⟩) (.inr rfl) (.int .i64 t3)).setCell (p:=⟨r,6,none⟩) (.inr rfl) (.int .i64 t4)).drew
 exact⟨rfl,⟨HC.out,_,_,_,Hh⟩,cy⟩
theorem QMb(w:World)(r base:Nat)(file:Int)(L:List Tok)(lv ov:Value)(i:Nat)(D:List Qra)(h:QZa w r base file L lv ov i D)(kind:Int)(s:List UInt8)(hs:s≠[]) :
 Calls Tryz.prog 63 #[.pointer (some ⟨r,0,none⟩),.int .i64 kind,.string ⟨s.toArray⟩] w fun e w'=>e = .returned (.bool (isK L i kind s))∧Qaa (fun _=>False) w w':=by
 obtain⟨c0,c1,_,_,_,_,_,_,_,_,_,_,_,cl⟩:=h.cells
 obtain⟨n1,n2⟩:=h.num
 obtain⟨g,cap,rfl,hg,d0,d1,_⟩:=h.toks.at h.lt
 have a9:s.isEmpty=false:=by simpa using hs
 have hK:=hid (show isK L i kind s=(decide ((tkN L i).kind=kind) && decide ((tkN L i).text=s))by unfold isK;rw[a9,Bool.false_or])
 clear h hs a9
 generalize tkN L i=t at *
 obtain⟨t0,t1,t2,t3,t4⟩:=t
 simp only at d0 d1 hK
 by_cases hk:t0=kind
 ·subst hk
  by_cases ht:t1=s
  ·subst ht
   go_enter Tryz.func63,Tryz.ntmps63
   go_wp2_with fail
   go_quiet (fail)
   go_wp2_with fail
   go_ret
   exact⟨Qka (by rw[hK.out];simp),Qda _ _⟩
  ·have qw:(t1 == s)=false:=by rw[beq_eq_false_iff_ne];exact ht
   have HT:=hid ht
   clear ht
   go_enter Tryz.func63,Tryz.ntmps63
   go_wp2_with fail
   go_quiet (fail)
   go_wp2_with fail
   go_ret
   exact⟨Qka (by rw[hK.out];simp[HT.out]),Qda _ _⟩
 ·have kA:(t0 == kind)=false:=by rw[beq_eq_false_iff_ne];exact hk
  have HK:=hid hk
  clear hk
  go_enter Tryz.func63,Tryz.ntmps63
  go_wp2_with fail
  go_quiet (fail)
  go_wp2_with fail
  go_ret
  exact⟨Qka (by rw[hK.out];simp[HK.out]),Qda _ _⟩
def QZk(r base:Nat)(file:Int)(L:List Tok)(lv ov:Value)(i:Nat)(D:List Qra)(s:List UInt8)(w:World)(e:Ending)(w':World):Prop:=
 e = .returned (.tuple #[])∧Qaa (· = r) w w'∧(isK L i 4 s=true→QZa w' r base file L lv ov (i+1) D)∧(isK L i 4 s=false→Qyb w' r file L i 6)
set_option maxRecDepth 100000 in
theorem Qob(w:World)(r base:Nat)(file:Int)(L:List Tok)(lv ov:Value)(i:Nat)(D:List Qra)(h:QZa w r base file L lv ov i D)(s:List UInt8)(hs:s≠[]) :
 Calls Tryz.prog 67 #[.pointer (some ⟨r,0,none⟩),.string ⟨s.toArray⟩] w (QZk r base file L lv ov i D s w):=by
 obtain⟨c0,c1,c2,c3,_,_,_,f1,f2,f3,_,_,_,cl⟩:=h.cells
 obtain⟨n1,n2⟩:=h.num
 have mV:=QMb w r base file L lv ov i D h 4 s hs
 have gu:isK L i 4 s=true→i+1<L.length:=fun hk=>h.ok.next h.lt (by unfold isK at hk;simp only[Bool.and_eq_true,decide_eq_true_eq]at hk;rw[hk.1];decide)
 have HH:=hid h
 clear h hs
 cases hy:isK L i 4 s with
 | true=>
  rw[hy]at mV
  have KS:=hid mV
  have gP:=hid (gu hy)
  have HY:=hid hy
  clear mV gu hy
  go_enter Tryz.func67,Tryz.ntmps67
  go_wp2_with fail
  refine(by exact KS.out:Calls _ _ _ _ _).mono ?_
  rintro e w1 ⟨rfl,Ht⟩
  have h1:=HH.out.keeps Ht
  obtain⟨_,d1,_,_,_,_,_,g1,_,_,_,_,_,dl⟩:=h1.cells
  have H1:=hid h1
  clear h1
  go_wp2_with fail
  refine bodyPost_ret (results_none rfl _ _ _) rfl ?_
  obtain⟨a,b⟩:=H1.out.step gP.out
  exact⟨rfl,(Ht.mono (S:=(· = r)) (fun _ _ e=>e.elim)).trans b (fun _ _ e=>e),fun _=>a,fun e=>by rw[HY.out]at e;cases e⟩
 | false=>
  rw[hy]at mV
  have KS:=hid mV
  have HY:=hid hy
  clear mV gu hy
  go_enter Tryz.func67,Tryz.ntmps67
  go_wp2_with fail
  refine(by exact KS.out:Calls _ _ _ _ _).mono ?_
  rintro e w1 ⟨rfl,Ht⟩
  have hf:=hid (QCb w1 r base file L lv ov i D (HH.out.keeps Ht) 6 (by decide))
  go_wp2_with fail
  refine(by exact hf.out:Calls _ _ _ _ _).mono ?_
  rintro e w2 ⟨rfl,hb,Ho⟩
  go_wp2_with fail
  refine bodyPost_ret (results_none rfl _ _ _) rfl ?_
  exact⟨rfl,(Ht.mono (S:=(· = r)) (fun _ _ e=>e.elim)).trans Ho (fun _ _ e=>e),fun e=>(by rw[HY.out]at e;cases e),fun _=>hb⟩
theorem Qoa(w:World)(r:Nat)(file:Int)(L:List Tok)(k:Nat)(c:Int)(h:Qyb w r file L k c)(s:ByteArray) :
 Calls Tryz.prog 67 #[.pointer (some ⟨r,0,none⟩),.string s] w fun e w'=>e = .returned (.tuple #[])∧w=w':=by
 obtain⟨h0,lv,x,ov,hH⟩:=h
 have c3:=hH.cell 3
 have cl:=hH.lt
 have hb:(c != 0)=true:=by rw[bne_iff_ne];exact h0
 clear hH h0
 go_enter Tryz.func67,Tryz.ntmps67
 go_wp2_with fail
 refine bodyPost_ret (results_none rfl _ _ _) rfl ?_
 exact⟨rfl,rfl⟩
def QJa:Nat→List UInt8→Bool
 | 1=>QUa
 | 2=>QQb
 | 3=>Qna
 | _=>fun _=>true
def Q5a(r base:Nat)(file:Int)(L:List Tok)(lv ov:Value)(D:List Qra)(i:Nat)(R:Rs Nat)(w:World)(e:Ending)(w':World):Prop:=
 Qaa (· = r) w w'∧match R with
  | .ok j=>e = .returned (.string (txN L i))∧QZa w' r base file L lv ov j D
  | .error (k,c)=>e = .returned (.string ⟨#[]⟩)∧Qyb w' r file L k c
set_option maxRecDepth 100000 in
theorem Qvh(w:World)(r base:Nat)(file:Int)(L:List Tok)(lv ov:Value)(i:Nat)(D:List Qra)(h:QZa w r base file L lv ov i D)(kind:Int)(gn:kind≠8) :
 Calls Tryz.prog 65 #[.pointer (some ⟨r,0,none⟩),.int .i64 kind,.int .i64 1] w (Q5a r base file L lv ov D i (Qha L kind (QJa 1) i) w):=by
 obtain⟨c0,c1,c2,c3,_,_,_,f1,f2,f3,_,_,_,cl⟩:=h.cells
 obtain⟨n1,n2⟩:=h.num
 have HF:=hid (fun wx hx=>QCb wx r base file L lv ov i D hx)
 have HH:=hid h
 obtain⟨g,cap,rfl,hg,d0,d1,d2,d3,d4,d5⟩:=h.toks.at h.lt
 have gu:(tkN L i).kind=kind→i+1<L.length:=fun hk=>h.ok.next h.lt (by rw[hk];exact gn)
 have gm:=h.ok.at i
 have J0:=hid (show txN L i=⟨(tkN L i).text.toArray⟩from rfl)
 have HT:=hid (show Qha L kind (QJa 1) i=if (tkN L i).kind=kind then(if QJa 1 (tkN L i).text=true then .ok (i+1)else .error (i,1))else .error (i,6)from rfl)
 unfold Q5a
 generalize Qha L kind (QJa 1) i=T at *
 generalize txN L i=X at *
 generalize tkN L i=t at *
 obtain⟨t0,t1,t2,t3,t4⟩:=t
 simp only at d0 d1 d2 d3 d4 d5 gu HT J0 gm
 clear h gn
 have gl:g<w.heap.size:=World.block_lt_of_cell? w _ d0
 have hN:=Qca.new w #[.int .i64 0,.string ⟨#[]⟩,.int .i64 0,.int .i64 0,.int .i64 0,.int .i64 0] 65
 have Hk:Below w.heap.size w (w.alloc (.cells #[.int .i64 0,.string ⟨#[]⟩,.int .i64 0,.int .i64 0,.int .i64 0,.int .i64 0] 65)):=(Below.refl _ _).alloc (Nat.le_refl _) _
 have c0':=(Hk.cell cl).trans c0
 have c1':=(Hk.cell cl).trans c1
 have d0':=(Hk.cell gl).trans d0
 have d1':=(Hk.cell gl).trans d1
 have d2':=(Hk.cell gl).trans d2
 have d3':=(Hk.cell gl).trans d3
 have d4':=(Hk.cell gl).trans d4
 have d5':=(Hk.cell gl).trans d5
 have Hj:=hN.lt
 obtain⟨g0,g1,g2,g3,g4,g5⟩:=QIb hN
 obtain⟨m0,m1,m2,m3,m4,m5⟩:=Qfa hN
 have oG:=hid hN
 have ob:=hid Hk
 have hM:=(Qca.new w #[.int .i64 t0,.string ⟨t1.toArray⟩,.int .i64 t2,.int .i64 file,.int .i64 t3,.int .i64 t4] 65).drew
 have Hc:Qaa (fun _=>False) w (w.alloc (.cells #[.int .i64 t0,.string ⟨t1.toArray⟩,.int .i64 t2,.int .i64 file,.int .i64 t3,.int .i64 t4] 65)).drew:=((Qaa.refl _ w).alloc _).drew
 have h3:=HH.out.keeps Hc
 obtain⟨x0,x1,x2,x3,x4,x5⟩:=Qfa hM
 have xl:=hM.lt
 obtain⟨_,y1,_,y3,_,_,_,z1,_,z3,_,_,_,yl⟩:=h3.cells
 have H3:=hid h3
 have Hy:=hid (Hc.mono (S:=(· = r)) (fun _ _ e=>e.elim))
 clear hN Hk hM Hc h3
 by_cases hk:t0=kind
 ·subst hk
  have HN:=hid (gu rfl)
  clear gu
  have hc:=fun wx=>QAh ⟨t1.toArray⟩ wx (by show t1.toArray.size≤_;rw[List.size_toArray];unfold maxLen;omega)
  rw[show(QUa (⟨t1.toArray⟩:ByteArray).data.toList)=QUa t1 from by rw[List.toList_toArray]]at hc
  cases hb:QUa t1 with
  | true=>
   rw[hb]at hc
   have HC:=hid hc
   have KL:=hid hb
   clear hc hb
   have hT:T = .ok (i+1):=by rw[HT.out,if_pos rfl,if_pos (show QJa 1 t1=true from KL.out)]
   subst hT
   go_enter Tryz.func65,Tryz.ntmps65
   go_wp2_with fail
   go_region
   generalize (w.alloc (.cells #[.int .i64 t0,.string ⟨t1.toArray⟩,.int .i64 t2,.int .i64 file,.int .i64 t3,.int .i64 t4] 65)).drew=w3 at *
   go_wp2_with fail
   refine(HC.out _).mono ?_
   rintro e w' ⟨rfl,rfl⟩
   go_wp2_with fail
   go_ret
   obtain⟨a,b⟩:=H3.out.step HN.out
   exact⟨Hy.out.trans b (fun _ _ e=>e),by rw[J0.out];rfl,a⟩
  | false=>
   rw[hb]at hc
   have HC:=hid hc
   have hT:T = .error (i,1):=by rw[HT.out,if_pos rfl,if_neg (show ¬QJa 1 t1=true by show ¬QUa t1=true;rw[hb];exact Bool.false_ne_true)]
   subst hT
   clear hc hb
   have jo:=hid (HF.out _ H3.out 1 (by decide))
   go_enter Tryz.func65,Tryz.ntmps65
   go_wp2_with fail
   go_region
   generalize (w.alloc (.cells #[.int .i64 t0,.string ⟨t1.toArray⟩,.int .i64 t2,.int .i64 file,.int .i64 t3,.int .i64 t4] 65)).drew=w3 at *
   go_wp2_with fail
   refine(HC.out _).mono ?_
   rintro e w' ⟨rfl,rfl⟩
   go_wp2_with fail
   refine(by exact jo.out:Calls _ _ _ _ _).mono ?_
   rintro e w2 ⟨rfl,Hn,Ho⟩
   go_wp2_with fail
   go_ret
   exact⟨Hy.out.trans Ho (fun _ _ e=>e),rfl,Hn⟩
 ·have hT:T = .error (i,6):=by rw[HT.out,if_neg hk]
  subst hT
  have kA:(t0 != kind)=true:=by rw[bne_iff_ne];exact hk
  have jo:=hid (HF.out _ H3.out 6 (by decide))
  clear hk gu
  go_enter Tryz.func65,Tryz.ntmps65
  go_wp2_with fail
  go_region
  generalize (w.alloc (.cells #[.int .i64 t0,.string ⟨t1.toArray⟩,.int .i64 t2,.int .i64 file,.int .i64 t3,.int .i64 t4] 65)).drew=w3 at *
  go_wp2_with fail
  refine(by exact jo.out:Calls _ _ _ _ _).mono ?_
  rintro e w2 ⟨rfl,Hn,Ho⟩
  go_wp2_with fail
  go_ret
  exact⟨Hy.out.trans Ho (fun _ _ e=>e),rfl,Hn⟩
set_option maxRecDepth 100000 in
theorem Qwh(w:World)(r base:Nat)(file:Int)(L:List Tok)(lv ov:Value)(i:Nat)(D:List Qra)(h:QZa w r base file L lv ov i D)(kind:Int)(gn:kind≠8) :
 Calls Tryz.prog 65 #[.pointer (some ⟨r,0,none⟩),.int .i64 kind,.int .i64 2] w (Q5a r base file L lv ov D i (Qha L kind (QJa 2) i) w):=by
 obtain⟨c0,c1,c2,c3,_,_,_,f1,f2,f3,_,_,_,cl⟩:=h.cells
 obtain⟨n1,n2⟩:=h.num
 have HF:=hid (fun wx hx=>QCb wx r base file L lv ov i D hx)
 have HH:=hid h
 obtain⟨g,cap,rfl,hg,d0,d1,d2,d3,d4,d5⟩:=h.toks.at h.lt
 have gu:(tkN L i).kind=kind→i+1<L.length:=fun hk=>h.ok.next h.lt (by rw[hk];exact gn)
 have gm:=h.ok.at i
 have J0:=hid (show txN L i=⟨(tkN L i).text.toArray⟩from rfl)
 have HT:=hid (show Qha L kind (QJa 2) i=if (tkN L i).kind=kind then(if QJa 2 (tkN L i).text=true then .ok (i+1)else .error (i,1))else .error (i,6)from rfl)
 unfold Q5a
 generalize Qha L kind (QJa 2) i=T at *
 generalize txN L i=X at *
 generalize tkN L i=t at *
 obtain⟨t0,t1,t2,t3,t4⟩:=t
 simp only at d0 d1 d2 d3 d4 d5 gu HT J0 gm
 clear h gn
 have gl:g<w.heap.size:=World.block_lt_of_cell? w _ d0
 have hN:=Qca.new w #[.int .i64 0,.string ⟨#[]⟩,.int .i64 0,.int .i64 0,.int .i64 0,.int .i64 0] 65
 have Hk:Below w.heap.size w (w.alloc (.cells #[.int .i64 0,.string ⟨#[]⟩,.int .i64 0,.int .i64 0,.int .i64 0,.int .i64 0] 65)):=(Below.refl _ _).alloc (Nat.le_refl _) _
 have c0':=(Hk.cell cl).trans c0
 have c1':=(Hk.cell cl).trans c1
 have d0':=(Hk.cell gl).trans d0
 have d1':=(Hk.cell gl).trans d1
 have d2':=(Hk.cell gl).trans d2
 have d3':=(Hk.cell gl).trans d3
 have d4':=(Hk.cell gl).trans d4
 have d5':=(Hk.cell gl).trans d5
 have Hj:=hN.lt
 obtain⟨g0,g1,g2,g3,g4,g5⟩:=QIb hN
 obtain⟨m0,m1,m2,m3,m4,m5⟩:=Qfa hN
 have oG:=hid hN
 have ob:=hid Hk
 have hM:=(Qca.new w #[.int .i64 t0,.string ⟨t1.toArray⟩,.int .i64 t2,.int .i64 file,.int .i64 t3,.int .i64 t4] 65).drew
 have Hc:Qaa (fun _=>False) w (w.alloc (.cells #[.int .i64 t0,.string ⟨t1.toArray⟩,.int .i64 t2,.int .i64 file,.int .i64 t3,.int .i64 t4] 65)).drew:=((Qaa.refl _ w).alloc _).drew
 have h3:=HH.out.keeps Hc
 obtain⟨x0,x1,x2,x3,x4,x5⟩:=Qfa hM
 have xl:=hM.lt
 obtain⟨_,y1,_,y3,_,_,_,z1,_,z3,_,_,_,yl⟩:=h3.cells
 have H3:=hid h3
 have Hy:=hid (Hc.mono (S:=(· = r)) (fun _ _ e=>e.elim))
 clear hN Hk hM Hc h3
 by_cases hk:t0=kind
 ·subst hk
  have HN:=hid (gu rfl)
  clear gu
  have hc:=fun wx=>Qzh ⟨t1.toArray⟩ wx (by show t1.toArray.size≤_;rw[List.size_toArray];omega)
  rw[show(QFe ⟨t1.toArray⟩)=QQb t1 from by show QQb (⟨t1.toArray⟩:ByteArray).data.toList=_;rw[List.toList_toArray]]at hc
  cases hb:QQb t1 with
  | true=>
   rw[hb]at hc
   have HC:=hid hc
   have KL:=hid hb
   clear hc hb
   have hT:T = .ok (i+1):=by rw[HT.out,if_pos rfl,if_pos (show QJa 2 t1=true from KL.out)]
   subst hT
   go_enter Tryz.func65,Tryz.ntmps65
   go_wp2_with fail
   go_region
   generalize (w.alloc (.cells #[.int .i64 t0,.string ⟨t1.toArray⟩,.int .i64 t2,.int .i64 file,.int .i64 t3,.int .i64 t4] 65)).drew=w3 at *
   go_wp2_with fail
   refine(HC.out _).mono ?_
   rintro e w' ⟨rfl,rfl⟩
   go_wp2_with fail
   go_ret
   obtain⟨a,b⟩:=H3.out.step HN.out
   exact⟨Hy.out.trans b (fun _ _ e=>e),by rw[J0.out];rfl,a⟩
  | false=>
   rw[hb]at hc
   have HC:=hid hc
   have hT:T = .error (i,1):=by rw[HT.out,if_pos rfl,if_neg (show ¬QJa 2 t1=true by show ¬QQb t1=true;rw[hb];exact Bool.false_ne_true)]
   subst hT
   clear hc hb
   have jo:=hid (HF.out _ H3.out 1 (by decide))
   go_enter Tryz.func65,Tryz.ntmps65
   go_wp2_with fail
   go_region
   generalize (w.alloc (.cells #[.int .i64 t0,.string ⟨t1.toArray⟩,.int .i64 t2,.int .i64 file,.int .i64 t3,.int .i64 t4] 65)).drew=w3 at *
   go_wp2_with fail
   refine(HC.out _).mono ?_
   rintro e w' ⟨rfl,rfl⟩
   go_wp2_with fail
   refine(by exact jo.out:Calls _ _ _ _ _).mono ?_
   rintro e w2 ⟨rfl,Hn,Ho⟩
   go_wp2_with fail
   go_ret
   exact⟨Hy.out.trans Ho (fun _ _ e=>e),rfl,Hn⟩
 ·have hT:T = .error (i,6):=by rw[HT.out,if_neg hk]
  subst hT
  have kA:(t0 != kind)=true:=by rw[bne_iff_ne];exact hk
  have jo:=hid (HF.out _ H3.out 6 (by decide))
  clear hk gu
  go_enter Tryz.func65,Tryz.ntmps65
  go_wp2_with fail
  go_region
  generalize (w.alloc (.cells #[.int .i64 t0,.string ⟨t1.toArray⟩,.int .i64 t2,.int .i64 file,.int .i64 t3,.int .i64 t4] 65)).drew=w3 at *
  go_wp2_with fail
  refine(by exact jo.out:Calls _ _ _ _ _).mono ?_
  rintro e w2 ⟨rfl,Hn,Ho⟩
  go_wp2_with fail
  go_ret
  exact⟨Hy.out.trans Ho (fun _ _ e=>e),rfl,Hn⟩
set_option maxRecDepth 100000 in
theorem Q0b(w:World)(r base:Nat)(file:Int)(L:List Tok)(lv ov:Value)(i:Nat)(D:List Qra)(h:QZa w r base file L lv ov i D)(kind:Int)(gn:kind≠8) :
 Calls Tryz.prog 65 #[.pointer (some ⟨r,0,none⟩),.int .i64 kind,.int .i64 3] w (Q5a r base file L lv ov D i (Qha L kind (QJa 3) i) w):=by
 obtain⟨c0,c1,c2,c3,_,_,_,f1,f2,f3,_,_,_,cl⟩:=h.cells
 obtain⟨n1,n2⟩:=h.num
 have HF:=hid (fun wx hx=>QCb wx r base file L lv ov i D hx)
 have HH:=hid h
 obtain⟨g,cap,rfl,hg,d0,d1,d2,d3,d4,d5⟩:=h.toks.at h.lt
 have gu:(tkN L i).kind=kind→i+1<L.length:=fun hk=>h.ok.next h.lt (by rw[hk];exact gn)
 have gm:=h.ok.at i
 have J0:=hid (show txN L i=⟨(tkN L i).text.toArray⟩from rfl)
 have HT:=hid (show Qha L kind (QJa 3) i=if (tkN L i).kind=kind then(if QJa 3 (tkN L i).text=true then .ok (i+1)else .error (i,1))else .error (i,6)from rfl)
 unfold Q5a
 generalize Qha L kind (QJa 3) i=T at *
 generalize txN L i=X at *
 generalize tkN L i=t at *
 obtain⟨t0,t1,t2,t3,t4⟩:=t
 simp only at d0 d1 d2 d3 d4 d5 gu HT J0 gm
 clear h gn
 have gl:g<w.heap.size:=World.block_lt_of_cell? w _ d0
 have hN:=Qca.new w #[.int .i64 0,.string ⟨#[]⟩,.int .i64 0,.int .i64 0,.int .i64 0,.int .i64 0] 65
 have Hk:Below w.heap.size w (w.alloc (.cells #[.int .i64 0,.string ⟨#[]⟩,.int .i64 0,.int .i64 0,.int .i64 0,.int .i64 0] 65)):=(Below.refl _ _).alloc (Nat.le_refl _) _
 have c0':=(Hk.cell cl).trans c0
 have c1':=(Hk.cell cl).trans c1
 have d0':=(Hk.cell gl).trans d0
 have d1':=(Hk.cell gl).trans d1
 have d2':=(Hk.cell gl).trans d2
 have d3':=(Hk.cell gl).trans d3
 have d4':=(Hk.cell gl).trans d4
 have d5':=(Hk.cell gl).trans d5
 have Hj:=hN.lt
 obtain⟨g0,g1,g2,g3,g4,g5⟩:=QIb hN
 obtain⟨m0,m1,m2,m3,m4,m5⟩:=Qfa hN
 have oG:=hid hN
 have ob:=hid Hk
 have hM:=(Qca.new w #[.int .i64 t0,.string ⟨t1.toArray⟩,.int .i64 t2,.int .i64 file,.int .i64 t3,.int .i64 t4] 65).drew
 have Hc:Qaa (fun _=>False) w (w.alloc (.cells #[.int .i64 t0,.string ⟨t1.toArray⟩,.int .i64 t2,.int .i64 file,.int .i64 t3,.int .i64 t4] 65)).drew:=((Qaa.refl _ w).alloc _).drew
 have h3:=HH.out.keeps Hc
 obtain⟨x0,x1,x2,x3,x4,x5⟩:=Qfa hM
 have xl:=hM.lt
 obtain⟨_,y1,_,y3,_,_,_,z1,_,z3,_,_,_,yl⟩:=h3.cells
 have H3:=hid h3
 have Hy:=hid (Hc.mono (S:=(· = r)) (fun _ _ e=>e.elim))
 clear hN Hk hM Hc h3
 by_cases hk:t0=kind
 ·subst hk
  have HN:=hid (gu rfl)
  clear gu
  have hc:=fun wx=>Q1l ⟨t1.toArray⟩ wx (by show t1.toArray.size≤_;rw[List.size_toArray];unfold maxLen;omega)
  rw[show(Qna (⟨t1.toArray⟩:ByteArray).data.toList)=Qna t1 from by rw[List.toList_toArray]]at hc
  cases hb:Qna t1 with
  | true=>
   rw[hb]at hc
   have HC:=hid hc
   have KL:=hid hb
   clear hc hb
   have hT:T = .ok (i+1):=by rw[HT.out,if_pos rfl,if_pos (show QJa 3 t1=true from KL.out)]
   subst hT
   go_enter Tryz.func65,Tryz.ntmps65
   go_wp2_with fail
   go_region
   generalize (w.alloc (.cells #[.int .i64 t0,.string ⟨t1.toArray⟩,.int .i64 t2,.int .i64 file,.int .i64 t3,.int .i64 t4] 65)).drew=w3 at *
   go_wp2_with fail
   refine(HC.out _).mono ?_
   rintro e w' ⟨rfl,rfl⟩
   go_wp2_with fail
   go_ret
   obtain⟨a,b⟩:=H3.out.step HN.out
   exact⟨Hy.out.trans b (fun _ _ e=>e),by rw[J0.out];rfl,a⟩
  | false=>
   rw[hb]at hc
   have HC:=hid hc
   have hT:T = .error (i,1):=by rw[HT.out,if_pos rfl,if_neg (show ¬QJa 3 t1=true by show ¬Qna t1=true;rw[hb];exact Bool.false_ne_true)]
   subst hT
   clear hc hb
   have jo:=hid (HF.out _ H3.out 1 (by decide))
   go_enter Tryz.func65,Tryz.ntmps65
   go_wp2_with fail
   go_region
   generalize (w.alloc (.cells #[.int .i64 t0,.string ⟨t1.toArray⟩,.int .i64 t2,.int .i64 file,.int .i64 t3,.int .i64 t4] 65)).drew=w3 at *
   go_wp2_with fail
   refine(HC.out _).mono ?_
   rintro e w' ⟨rfl,rfl⟩
   go_wp2_with fail
   refine(by exact jo.out:Calls _ _ _ _ _).mono ?_
   rintro e w2 ⟨rfl,Hn,Ho⟩
   go_wp2_with fail
   go_ret
   exact⟨Hy.out.trans Ho (fun _ _ e=>e),rfl,Hn⟩
 ·have hT:T = .error (i,6):=by rw[HT.out,if_neg hk]
  subst hT
  have kA:(t0 != kind)=true:=by rw[bne_iff_ne];exact hk
  have jo:=hid (HF.out _ H3.out 6 (by decide))
  clear hk gu
  go_enter Tryz.func65,Tryz.ntmps65
  go_wp2_with fail
  go_region
  generalize (w.alloc (.cells #[.int .i64 t0,.string ⟨t1.toArray⟩,.int .i64 t2,.int .i64 file,.int .i64 t3,.int .i64 t4] 65)).drew=w3 at *
  go_wp2_with fail
  refine(by exact jo.out:Calls _ _ _ _ _).mono ?_
  rintro e w2 ⟨rfl,Hn,Ho⟩
  go_wp2_with fail
  go_ret
  exact⟨Hy.out.trans Ho (fun _ _ e=>e),rfl,Hn⟩
set_option maxRecDepth 100000 in
theorem QVj(w:World)(r base:Nat)(file:Int)(L:List Tok)(lv ov:Value)(i:Nat)(D:List Qra)(h:QZa w r base file L lv ov i D)(kind:Int)(gn:kind≠8) :
 Calls Tryz.prog 65 #[.pointer (some ⟨r,0,none⟩),.int .i64 kind,.int .i64 4] w (Q5a r base file L lv ov D i (Qha L kind (QJa 4) i) w):=by
 obtain⟨c0,c1,c2,c3,_,_,_,f1,f2,f3,_,_,_,cl⟩:=h.cells
 obtain⟨n1,n2⟩:=h.num
 have HF:=hid (fun wx hx=>QCb wx r base file L lv ov i D hx)
 have HH:=hid h
 obtain⟨g,cap,rfl,hg,d0,d1,d2,d3,d4,d5⟩:=h.toks.at h.lt
 have gu:(tkN L i).kind=kind→i+1<L.length:=fun hk=>h.ok.next h.lt (by rw[hk];exact gn)
 have gm:=h.ok.at i
 have J0:=hid (show txN L i=⟨(tkN L i).text.toArray⟩from rfl)
 have HT:=hid (show Qha L kind (QJa 4) i=if (tkN L i).kind=kind then(if QJa 4 (tkN L i).text=true then .ok (i+1)else .error (i,1))else .error (i,6)from rfl)
 unfold Q5a
 generalize Qha L kind (QJa 4) i=T at *
 generalize txN L i=X at *
 generalize tkN L i=t at *
 obtain⟨t0,t1,t2,t3,t4⟩:=t
 simp only at d0 d1 d2 d3 d4 d5 gu HT J0 gm
 clear h gn
 have gl:g<w.heap.size:=World.block_lt_of_cell? w _ d0
 have hN:=Qca.new w #[.int .i64 0,.string ⟨#[]⟩,.int .i64 0,.int .i64 0,.int .i64 0,.int .i64 0] 65
 have Hk:Below w.heap.size w (w.alloc (.cells #[.int .i64 0,.string ⟨#[]⟩,.int .i64 0,.int .i64 0,.int .i64 0,.int .i64 0] 65)):=(Below.refl _ _).alloc (Nat.le_refl _) _
 have c0':=(Hk.cell cl).trans c0
 have c1':=(Hk.cell cl).trans c1
 have d0':=(Hk.cell gl).trans d0
 have d1':=(Hk.cell gl).trans d1
 have d2':=(Hk.cell gl).trans d2
 have d3':=(Hk.cell gl).trans d3
 have d4':=(Hk.cell gl).trans d4
 have d5':=(Hk.cell gl).trans d5
 have Hj:=hN.lt
 obtain⟨g0,g1,g2,g3,g4,g5⟩:=QIb hN
 obtain⟨m0,m1,m2,m3,m4,m5⟩:=Qfa hN
 have oG:=hid hN
 have ob:=hid Hk
 have hM:=(Qca.new w #[.int .i64 t0,.string ⟨t1.toArray⟩,.int .i64 t2,.int .i64 file,.int .i64 t3,.int .i64 t4] 65).drew
 have Hc:Qaa (fun _=>False) w (w.alloc (.cells #[.int .i64 t0,.string ⟨t1.toArray⟩,.int .i64 t2,.int .i64 file,.int .i64 t3,.int .i64 t4] 65)).drew:=((Qaa.refl _ w).alloc _).drew
 have h3:=HH.out.keeps Hc
 obtain⟨x0,x1,x2,x3,x4,x5⟩:=Qfa hM
 have xl:=hM.lt
 obtain⟨_,y1,_,y3,_,_,_,z1,_,z3,_,_,_,yl⟩:=h3.cells
 have H3:=hid h3
 have Hy:=hid (Hc.mono (S:=(· = r)) (fun _ _ e=>e.elim))
 clear hN Hk hM Hc h3
 by_cases hk:t0=kind
 ·subst hk
  have HN:=hid (gu rfl)
  clear gu
  have hT:T = .ok (i+1):=by rw[HT.out,if_pos rfl,if_pos (show QJa 4 t1=true from rfl)]
  subst hT
  go_enter Tryz.func65,Tryz.ntmps65
  go_wp2_with fail
  go_region
  generalize (w.alloc (.cells #[.int .i64 t0,.string ⟨t1.toArray⟩,.int .i64 t2,.int .i64 file,.int .i64 t3,.int .i64 t4] 65)).drew=w3 at *
  go_wp2_with fail
  go_ret
  obtain⟨a,b⟩:=H3.out.step HN.out
  exact⟨Hy.out.trans b (fun _ _ e=>e),by rw[J0.out];rfl,a⟩
 ·have hT:T = .error (i,6):=by rw[HT.out,if_neg hk]
  subst hT
  have kA:(t0 != kind)=true:=by rw[bne_iff_ne];exact hk
  have jo:=hid (HF.out _ H3.out 6 (by decide))
  clear hk gu
  go_enter Tryz.func65,Tryz.ntmps65
  go_wp2_with fail
  go_region
  generalize (w.alloc (.cells #[.int .i64 t0,.string ⟨t1.toArray⟩,.int .i64 t2,.int .i64 file,.int .i64 t3,.int .i64 t4] 65)).drew=w3 at *
  go_wp2_with fail
  refine(by exact jo.out:Calls _ _ _ _ _).mono ?_
  rintro e w2 ⟨rfl,Hn,Ho⟩
  go_wp2_with fail
  go_ret
  exact⟨Hy.out.trans Ho (fun _ _ e=>e),rfl,Hn⟩
def R4R(w:World)(r base:Nat)(file:Int)(lv x ov:Value)(D:List Qra):Prop:=
 Qca w r #[lv,x,ov,.int .i64 0,.int .i64 0,.int .i64 0,.int .i64 0] 78∧Q0a w base file ov D∧base≤r∧base≤w.heap.size
theorem Qym{w w1 w8:World}{r base:Nat}{file:Int}{lv x ov v8:Value}{D:List Qra}{d:Qra}{pv:Value}{vs:List Value}{o:Obj}(h:R4R w r base file lv x ov D)(hp:Qia w base pv d.parts)(k1:Qaa (fun _=>False) w w1)
 (kI:vs.length=D.length) (Hb:w.ownsRow base 34 7 ov D.length (QFb file D vs)) (H9:∀k (h:k<D.length) (h2:k<vs.length),Qia w base vs[k] D[k].parts)
 (Hl:w8.ownsRow base 34 7 v8 (D.length+1) (QFb file D vs++[.int .i64 d.kind,.string d.label,.string d.name,pv,.int .i64 file,.int .i64 d.line,.int .i64 d.col])) (hg:(w1.alloc o).grownBy w8 ov.ownBlock) :
 r<w8.heap.size∧w8.frozen? ⟨r,2,none⟩=false∧w8.cell? ⟨r,2,none⟩=some ov∧R4R (w8.setCell ⟨r,2,none⟩ v8) r base file lv x v8 (D++[d])∧Qaa (fun b=>b=r∨ov.ownBlock=some b) w (w8.setCell ⟨r,2,none⟩ v8):=by
 have k2:Qaa (fun b=>ov.ownBlock=some b) w w8:=((k1.alloc o).mono (fun _ _ e=>e.elim)).grown hg (fun i e=>.inr e)
 have Hq:=QBa Hb h.1 (by decide)
 have h8:Qca w8 r #[lv,x,ov,.int .i64 0,.int .i64 0,.int .i64 0,.int .i64 0] 78:=h.1.keeps k2 Hq
 have kK:∀{v:Value} {ps:List QRa},Qia w base v ps→Qia w8 base v ps:=by
  intro v ps Gx
  obtain⟨us,u1,u2,u3⟩:=Gx
  refine⟨us,u1,Qba u2 k2 (fun g cw e=>?_),fun j a b=>Qba (u3 j a b) k2 (fun g cw e=>?_)⟩
  ·obtain⟨_,_,cur,q⟩:=Qva Hb e
   exact QBa u2 q (by decide) cw
  ·obtain⟨_,_,cur,q⟩:=Qva Hb e
   exact QBa (u3 j a b) q (by decide) cw
 have h9:=h8.set 2 v8
 have k3:=(Qaa.refl (· = r) w8).setCell (p:=⟨r,2,none⟩) (.inr rfl) v8
 have ha:=QNa.one h8 (by decide) (by decide) (by decide)
 refine⟨h8.lt,h8.free 2,h8.cell 2,⟨h9,?_,h.2.2.1,Nat.le_trans h.2.2.2 (Nat.le_trans k2.size k3.size)⟩,(k2.mono (fun _ _ e=>.inr e)).setCell (.inr (.inl rfl)) v8⟩
 refine Q0a.keeps ?_ k3 ha
 refine⟨vs++[pv],by simp[kI],?_,?_⟩
 ·rw[Qgd file D vs d pv kI]
  simpa using Hl
 ·intro j hj Gf
  by_cases e:j<D.length
  ·rw[List.getElem_append_left (by omega),List.getElem_append_left e]
   exact kK (H9 j e (by omega))
  ·have me:j=D.length:=by simp at hj;omega
   subst me
   rw[List.getElem_append_right (by omega),List.getElem_append_right (by omega)]
   simp only[kI,Nat.sub_self,List.getElem_cons_zero]
   exact kK hp
set_option maxRecDepth 100000 in
theorem QQp(w:World)(r base:Nat)(file:Int)(lv x ov:Value)(D:List Qra)(d:Qra)(pv:Value)(h:R4R w r base file lv x ov D)(hp:Qia w base pv d.parts)(hl:D.length≤20000) :
 Calls Tryz.prog 64 #[.pointer (some ⟨r,0,none⟩),Q5b file d pv] w fun e w'=>e = .returned (.tuple #[])∧∃ov',R4R w' r base file lv x ov' (D++[d])∧Qaa (fun b=>b=r∨ov.ownBlock=some b) w w':=by
 obtain⟨pa,pc,rfl⟩:=hp.slice
 obtain⟨oa,oc,rfl⟩:=h.2.1.slice
 obtain⟨vs,kI,Hb,H9⟩:=id h.2.1
 have kc:=h.2.2.2
 have hH:=h.1
 have gP:=hid (fun(w1 w8:World) (v8:Value) (o:Obj) k1 Hl hg=>Qym (w1:=w1) (w8:=w8) (v8:=v8) (o:=o) h hp k1 kI Hb H9 Hl hg)
 have gj:=World.ownsRow.alloc Hb (.cells (QNc file d (.slice pa d.parts.length pc)) 34)
 have hN:=Qca.new w (QNc file d (.slice pa d.parts.length pc)) 34
 have GX:=hH.alloc (.cells (QNc file d (.slice pa d.parts.length pc)) 34)
 have k1:=(Qaa.refl (fun _=>False) w).alloc (.cells (QNc file d (.slice pa d.parts.length pc)) 34)
 unfold Q5b
 unfold QNc at gj hN GX k1
 clear H9 Hb h hp hH
 generalize QFb file D vs=xs at *
 obtain⟨dk,dl,dn,dp,dli,dc⟩:=d
 simp only at *
 obtain⟨i0,hi,GL,GM,GN⟩:=info_parts Qnl
 have c3:=GX.cell 3
 have crl0:=GX.lt
 simp only[List.getElem?_toArray,List.getElem?_cons_succ,List.getElem?_cons_zero]at c3
 go_enter Tryz.func64,Tryz.ntmps64
 go_wp2_with fail
 generalize w.alloc (.cells #[.int .i64 dk,.string dl,.string dn,.slice pa dp.length pc,.int .i64 file,.int .i64 dli,.int .i64 dc] 34)=wb at *
 obtain⟨m0,m1,m2,m3,m4,m5,m6⟩:=Qqa hN
 have c2:wb.cell? ⟨r,2,none⟩=some (.slice oa D.length oc):=GX.cell 2
 have Hk:=hN.lt
 have rT:=Nat.le_trans kc k1.size
 have Gj:=hid (World.ownsRow.alloc (show wb.drew.ownsRow base 34 7 (.slice oa D.length oc) D.length xs from gj) (.cells #[.int .i64 dk,.string dl,.string dn,.slice pa dp.length pc,.int .i64 file,.int .i64 dli,.int .i64 dc] 34))
 clear gj GX hN
 go_region_law (refine step_append_lies _ (by rfl) _ _ _ (by rfl) base 34 i0 _ 7 88 Tryz.underlying25 hi GL GM GN rfl (by omega) _ D.length xs (by rfl) Gj.out ⟨wb.heap.size,0,none⟩ 1 1 [.int .i64 dk,.string dl,.string dn,.slice pa dp.length pc,.int .i64 file,.int .i64 dli,.int .i64 dc] (by rfl) (by rfl) (World.news_of_block (cs:=#[.int .i64 dk,.string dl,.string dn,.slice pa dp.length pc,.int .i64 file,.int .i64 dli,.int .i64 dc]) (t:=34) (fr:=(0,0)) (heap_alloc_new wb.drew _)) (by simp[Value.oneCell']) (by omega) (by unfold maxLen;omega) (by omega) (by simp;omega) (wb.heap.size+1) (by simp) ?_;intro gg cap2 w8 G3 Ha GY ew;obtain⟨y0,y1,y2,y3,y4⟩:=gP.out wb.drew w8 _ _ k1.drew G3 Ha)
 all_goals
  go_wp2_with fail
  go_end0
  exact⟨rfl,_,y3,y4⟩
theorem QYo(L:List Tok)(lv:Value)(B i:Nat)(file:Int)(w:World)(h:QQe B w lv file L)(hB:B≤w.heap.size)(ho:LOk L)(hi:i<L.length) :
 Calls Tryz.prog 149 #[lv,.int .i64 i] w fun e w'=>e = .returned (.tuple #[.int .i64 (QUb L i).1,.int .i64 (QUb L i).2.1,.int .i64 (QUb L i).2.2])∧Below w.heap.size w w':=by
 refine(Qtk (L.map tkX) lv i w (h.tokAt hB ho) (by rw[List.length_map];have:=ho.len;omega) (by rw[List.length_map];exact hi)).mono ?_
 rintro e w' ⟨res,hr,rfl,hb⟩
 have:Qlf res=QUb L i:=by unfold QUb;rw[hr.evF trivial]
 rw[this]
 exact⟨rfl,hb⟩
def QIf(L:List Tok)(i:Nat):Rs (Nat × Qzb):=
 if (tkN L i).kind=6 then(if Qna (tkN L i).text=true then .ok (i+1,⟨0,txN L i⟩)else .error (i,1))
 else if (QUb L i).2.2≠0 then .error (i,(QUb L i).2.2)else .ok ((QUb L i).2.1.toNat,⟨(QUb L i).1,⟨#[]⟩⟩)
def QQh(r base:Nat)(file:Int)(L:List Tok)(lv ov:Value)(D:List Qra)(R:Rs (Nat × Qzb))(w:World)(e:Ending)(w':World):Prop:=
 Qaa (· = r) w w'∧match R with
  | .ok (j,c)=>e = .returned (.agg #[.int .i64 c.value,.string c.label])∧QZa w' r base file L lv ov j D
  | .error (k,c)=>e = .returned (.agg #[.int .i64 0,.string ⟨#[]⟩])∧Qyb w' r file L k c
theorem QYn{w w2:World}{r base:Nat}{file:Int}{L:List Tok}{lv ov:Value}{i j:Nat}{D:List Qra}{x y:Value}(h:QZa w r base file L lv ov i D)(ha:QZa w2 r base file L lv ov j D)(GH:i≤j)(k2:Qaa (· = r) w w2)(hZ:Qca w2 w.heap.size #[x,y] 72)(hB:w.heap.size≠r)(a b:Value) :
 ((w2.setCell ⟨w.heap.size,0,none⟩ a).setCell ⟨w.heap.size,1,none⟩ b).cell? ⟨w.heap.size,0,none⟩=some a∧((w2.setCell ⟨w.heap.size,0,none⟩ a).setCell ⟨w.heap.size,1,none⟩ b).cell? ⟨w.heap.size,1,none⟩=some b∧
 QZa ((w2.setCell ⟨w.heap.size,0,none⟩ a).setCell ⟨w.heap.size,1,none⟩ b) r base file L lv ov j D∧Qaa (· = r) w ((w2.setCell ⟨w.heap.size,0,none⟩ a).setCell ⟨w.heap.size,1,none⟩ b):=by
 have hz:=(hZ.set 0 a).set 1 b
 have k:=(k2.setCell (p:=⟨w.heap.size,0,none⟩) (.inl (Nat.le_refl _)) a).setCell (p:=⟨w.heap.size,1,none⟩) (.inl (Nat.le_refl _)) b
 exact⟨hz.cell 0,hz.cell 1,h.turn k ((ha.holds.other ⟨w.heap.size,0,none⟩ a (Ne.symm hB)).other ⟨w.heap.size,1,none⟩ b (Ne.symm hB)) ha.lt GH,k⟩
theorem QQg{w w2:World}{r:Nat}{file:Int}{L:List Tok}{k:Nat}{c:Int}{x y:Value}(ha:Qyb w2 r file L k c)(k2:Qaa (· = r) w w2)(hZ:Qca w2 w.heap.size #[x,y] 72)(hB:w.heap.size≠r)(a b:Value) :
 ((w2.setCell ⟨w.heap.size,0,none⟩ a).setCell ⟨w.heap.size,1,none⟩ b).cell? ⟨w.heap.size,0,none⟩=some a∧((w2.setCell ⟨w.heap.size,0,none⟩ a).setCell ⟨w.heap.size,1,none⟩ b).cell? ⟨w.heap.size,1,none⟩=some b∧
 Qyb ((w2.setCell ⟨w.heap.size,0,none⟩ a).setCell ⟨w.heap.size,1,none⟩ b) r file L k c∧Qaa (· = r) w ((w2.setCell ⟨w.heap.size,0,none⟩ a).setCell ⟨w.heap.size,1,none⟩ b):=by
 have hz:=(hZ.set 0 a).set 1 b
 have kk:=(k2.setCell (p:=⟨w.heap.size,0,none⟩) (.inl (Nat.le_refl _)) a).setCell (p:=⟨w.heap.size,1,none⟩) (.inl (Nat.le_refl _)) b
 obtain⟨h0,lv,x,ov,h⟩:=ha
 exact⟨hz.cell 0,hz.cell 1,⟨h0,lv,x,ov,(h.other ⟨w.heap.size,0,none⟩ a (Ne.symm hB)).other ⟨w.heap.size,1,none⟩ b (Ne.symm hB)⟩,kk⟩
set_option maxRecDepth 100000 in
theorem QWo(w:World)(r base:Nat)(file:Int)(L:List Tok)(lv ov:Value)(i:Nat)(D:List Qra)(h:QZa w r base file L lv ov i D) :
 Calls Tryz.prog 143 #[.pointer (some ⟨r,0,none⟩)] w (QQh r base file L lv ov D (QIf L i) w):=by
 obtain⟨c0,c1,c2,c3,_,_,_,f1,f2,f3,_,_,_,cl⟩:=h.cells
 obtain⟨n1,n2⟩:=h.num
 have HF:=hid (fun c hc=>QCb w r base file L lv ov i D h c hc)
 have Gt:=hid (fun wx hx=>Q0b wx r base file L lv ov i D hx 6 (by decide))
 have MV:=hid (fun wx (hx:QZa wx r base file L lv ov i D)=>QYo L lv base i file wx hx.toks hx.size hx.ok hx.lt)
 have sZ:=hid (fun e=>QZe h.ok h.lt e)
 have HH:=hid h
 have HC:=hid (show QIf L i=if (tkN L i).kind=6 then(if Qna (tkN L i).text=true then .ok (i+1,⟨0,txN L i⟩)else .error (i,1))
  else if (QUb L i).2.2≠0 then .error (i,(QUb L i).2.2)else .ok ((QUb L i).2.1.toNat,⟨(QUb L i).1,⟨#[]⟩⟩)from rfl)
 have gh:=hid (show Qha L 6 (QJa 3) i=if (tkN L i).kind=6 then(if Qna (tkN L i).text=true then .ok (i+1)else .error (i,1))else .error (i,6)from rfl)
 obtain⟨g,cap,rfl,hg,d0,d1,d2,d3,d4,d5⟩:=h.toks.at h.lt
 have gl:g<w.heap.size:=World.block_lt_of_cell? w _ d0
 clear h d1 d2 d3 d4 d5
 have kR:=Qca.new w #[.int .i64 0,.string ⟨#[]⟩] 72
 have mf:Qaa (fun _=>False) w (w.alloc (.cells #[.int .i64 0,.string ⟨#[]⟩] 72)):=(Qaa.refl _ w).alloc _
 have ju:=hid kR
 have KT:=hid mf
 clear kR mf
 have G0:w.heap.size≠r:=by omega
 by_cases hk:(tkN L i).kind=6
 ·rw[hk]at d0
  have HK:=hid hk
  clear hk
  go_enter Tryz.func143,Tryz.ntmps143
  go_wp2_with fail
  go_quiet (fail)
  go_wp2_with fail
  obtain⟨T,hT⟩:∃T,T=Qha L 6 (QJa 3) i:=⟨_,rfl⟩
  rw[←hT]at Gt gh
  have Ma:=hid hT
  clear hT
  cases hb:Qna (tkN L i).text with
  | true=>
   have e1:=gh.out
   rw[if_pos HK.out,if_pos hb]at e1
   have e2:=HC.out
   rw[if_pos HK.out,if_pos hb]at e2
   have E2:=hid e2
   subst e1
   clear e2 hb
   refine(by exact Gt.out _ (HH.out.keeps (KT.out.drewN _)):Calls _ _ _ _ _).mono ?_
   rintro e w2 ⟨Ho,rfl,ha⟩
   have gc:=(ju.out.drewN _).keeps Ho G0
   have HA:=hid ha
   have Gs:=hid (((KT.out.drewN _).mono (S:=(· = r)) (fun _ _ e=>e.elim)).trans Ho (fun _ _ e=>e))
   have z0:=gc.cell 0
   have z1:=gc.cell 1
   have y0:=gc.free 0
   have y1:=gc.free 1
   have zl:=gc.lt
   have KV:=hid gc
   clear gc ha Ho
   generalize txN L i=X at *
   go_wp2_with fail
   obtain⟨q0,q1,q2,q3⟩:=QYn HH.out HA.out (by omega) Gs.out KV.out G0 (.int .i64 0) (.string X)
   exact bodyPost_ret (v:=.agg #[.int .i64 0,.string X]) (by simp[results,Tryz.results143,go_sem,q0,q1]) rfl ⟨q3,by rw[E2.out];exact⟨rfl,q2⟩⟩
  | false=>
   have hb':¬Qna (tkN L i).text=true:=by rw[hb];exact Bool.false_ne_true
   have e1:=gh.out
   rw[if_pos HK.out,if_neg hb']at e1
   have e2:=HC.out
   rw[if_pos HK.out,if_neg hb']at e2
   have E2:=hid e2
   subst e1
   clear e2 hb hb'
   refine(by exact Gt.out _ (HH.out.keeps (KT.out.drewN _)):Calls _ _ _ _ _).mono ?_
   rintro e w2 ⟨Ho,rfl,ha⟩
   have gc:=(ju.out.drewN _).keeps Ho G0
   have HA:=hid ha
   have Gs:=hid (((KT.out.drewN _).mono (S:=(· = r)) (fun _ _ e=>e.elim)).trans Ho (fun _ _ e=>e))
   have z0:=gc.cell 0
   have z1:=gc.cell 1
   have y0:=gc.free 0
   have y1:=gc.free 1
   have zl:=gc.lt
   have KV:=hid gc
   clear gc ha Ho
   go_wp2_with fail
   obtain⟨q0,q1,q2,q3⟩:=QQg HA.out Gs.out KV.out G0 (.int .i64 0) (.string ⟨#[]⟩)
   exact bodyPost_ret (v:=.agg #[.int .i64 0,.string ⟨#[]⟩]) (by simp[results,Tryz.results143,go_sem,q0,q1]) rfl ⟨q3,by rw[E2.out];exact⟨rfl,q2⟩⟩
 ·have kA:((tkN L i).kind == 6)=false:=by rw[beq_eq_false_iff_ne];exact hk
  have HK:=hid hk
  generalize (tkN L i).kind=kd at *
  clear hk
  generalize QUb L i=P at *
  obtain⟨p1,p2,p3⟩:=P
  go_enter Tryz.func143,Tryz.ntmps143
  go_wp2_with fail
  go_quiet (fail)
  go_wp2_with fail
  generalize km:(w.alloc (.cells #[.int .i64 0,.string ⟨#[]⟩] 72)).drewN _=w5
  have Hs:Qaa (fun _=>False) w w5:=by rw[←km];exact KT.out.drewN _
  have h5:=HH.out.keeps Hs
  have Kz:Qca w5 w.heap.size #[.int .i64 0,.string ⟨#[]⟩] 72:=by rw[←km];exact ju.out.drewN _
  have H5:=hid h5
  have K5:=hid Kz
  have GS:=hid Hs
  obtain⟨b0,b1,_,b3,_,_,_,a1,_,a3,_,_,_,bl⟩:=h5.cells
  clear km Hs h5 Kz
  by_cases hp:p3=0
  ·obtain⟨j,hj,GH,me⟩:=sZ.out hp
   have e2:=HC.out
   rw[if_neg HK.out,if_neg (by simpa using hp)]at e2
   have E2:=hid e2
   subst hp hj
   clear e2
   go_region_with (go_at_call 149;refine(MV.out _ (by exact H5.out.keeps ((Qaa.refl _ _).drew))).mono ?_;rintro e w3 ⟨rfl,gv⟩)
   all_goals
    have Hc:Qaa (fun _=>False) w5 w3:=((Qaa.refl (fun _=>False) w5).drew).trans (Qaa.of_fresh gv (fun _=>False)) (fun _ _ e=>e)
    have h3:=H5.out.keeps Hc
    have gT:=K5.out.keeps Hc (fun e=>e)
    obtain⟨_,v1,_,v3,_,_,_,u1,_,u3,_,_,_,vl⟩:=h3.cells
    have Hy:=hid ((GS.out.trans Hc (fun _ _ e=>e)).mono (S:=(· = r)) (fun _ _ e=>e.elim))
    have kj:=(Qaa.refl (· = r) w3).setCell (p:=⟨r,1,none⟩) (.inr rfl) (.int .i64 (j:Int))
    have HJ:=hid (h3.turn kj (h3.holds.set 1 (.int .i64 (j:Int))) me (by omega))
    have sR:=hid (Hy.out.trans kj (fun _ _ e=>e))
    have dW:=gT.other ⟨r,1,none⟩ (.int .i64 (j:Int)) G0
    have z0:=dW.cell 0
    have z1:=dW.cell 1
    have y0:=dW.free 0
    have y1:=dW.free 1
    have zl:=dW.lt
    have tt:=hid dW
    clear dW gT h3 Hc gv kj
    go_wp2_with fail
    obtain⟨q0,q1,q2,q3⟩:=QYn HH.out HJ.out (by omega) sR.out tt.out G0 (.int .i64 p1) (.string ⟨#[]⟩)
    exact bodyPost_ret (v:=.agg #[.int .i64 p1,.string ⟨#[]⟩]) (by simp[results,Tryz.results143,go_sem,q0,q1]) rfl ⟨q3,by rw[E2.out];exact⟨rfl,q2⟩⟩
  ·have e2:=HC.out
   rw[if_neg HK.out,if_pos (by simpa using hp)]at e2
   have E2:=hid e2
   have lR:(p3 != 0)=true:=by rw[bne_iff_ne];exact hp
   have HP:=hid hp
   clear e2 hp
   go_region_with (go_at_call 149;refine(MV.out _ (by exact H5.out.keeps ((Qaa.refl _ _).drew))).mono ?_;rintro e w3 ⟨rfl,gv⟩)
   all_goals
    have Hc:Qaa (fun _=>False) w5 w3:=((Qaa.refl (fun _=>False) w5).drew).trans (Qaa.of_fresh gv (fun _=>False)) (fun _ _ e=>e)
    have h3:=H5.out.keeps Hc
    have gT:=K5.out.keeps Hc (fun e=>e)
    have Hy:=hid ((GS.out.trans Hc (fun _ _ e=>e)).mono (S:=(· = r)) (fun _ _ e=>e.elim))
    have jo:=hid (QCb w3 r base file L _ ov i D h3 p3 HP.out)
    have KW:=hid gT
    clear gT h3 Hc gv
    go_wp2_with fail
    refine(by exact jo.out:Calls _ _ _ _ _).mono ?_
    rintro e w2 ⟨rfl,Hi,Ho⟩
    have gc:=KW.out.keeps Ho G0
    have HA:=hid Hi
    have Gs:=hid (Hy.out.trans Ho (fun _ _ e=>e))
    have z0:=gc.cell 0
    have z1:=gc.cell 1
    have y0:=gc.free 0
    have y1:=gc.free 1
    have zl:=gc.lt
    have KV:=hid gc
    clear gc Hi Ho
    go_wp2_with fail
    obtain⟨q0,q1,q2,q3⟩:=QQg HA.out Gs.out KV.out G0 (.int .i64 0) (.string ⟨#[]⟩)
    exact bodyPost_ret (v:=.agg #[.int .i64 0,.string ⟨#[]⟩]) (by simp[results,Tryz.results143,go_sem,q0,q1]) rfl ⟨q3,by rw[E2.out];exact⟨rfl,q2⟩⟩
def Qic(r base:Nat)(file:Int)(L:List Tok)(lv ov:Value)(D:List Qra)(R:Rs (Nat × QRa))(w:World)(e:Ending)(w':World):Prop:=
 Qaa (· = r) w w'∧match R with
  | .ok (j,p)=>∃cv,e = .returned (.agg #[.int .i64 p.kind,cv,.string p.text])∧Qea w' base cv p.cells∧QZa w' r base file L lv ov j D
  | .error (k,c)=>∃(p:QRa) (cv:Value),e = .returned (.agg #[.int .i64 p.kind,cv,.string p.text])∧Qea w' base cv p.cells∧Qyb w' r file L k c
def Qhe(w:World)(B:Nat)(a b c:Value):World:=((w.setCell ⟨B,0,none⟩ a).setCell ⟨B,1,none⟩ b).setCell ⟨B,2,none⟩ c
theorem QBb{w2:World}{B:Nat}{x y z:Value}{t:TypeId}(hZ:Qca w2 B #[x,y,z] t)(a b c:Value):(Qhe w2 B a b c).cell? ⟨B,0,none⟩=some a∧(Qhe w2 B a b c).cell? ⟨B,1,none⟩=some b∧(Qhe w2 B a b c).cell? ⟨B,2,none⟩=some c:=by
 have hz:=((hZ.set 0 a).set 1 b).set 2 c
 exact⟨hz.cell 0,hz.cell 1,hz.cell 2⟩
theorem Q4a{w w2:World}{S:Nat→Prop}(k2:Qaa S w w2){B:Nat}(hB:w.heap.size≤B∨S B)(a b c:Value):Qaa S w (Qhe w2 B a b c):=
 ((k2.setCell (p:=⟨B,0,none⟩) hB a).setCell (p:=⟨B,1,none⟩) hB b).setCell (p:=⟨B,2,none⟩) hB c
theorem Q2f{w2:World}{r B:Nat}{xs:Array Value}{t:TypeId}(h:Qca w2 r xs t)(hB:B≠r)(a b c:Value):Qca (Qhe w2 B a b c) r xs t:=
 ((h.other ⟨B,0,none⟩ a (Ne.symm hB)).other ⟨B,1,none⟩ b (Ne.symm hB)).other ⟨B,2,none⟩ c (Ne.symm hB)
theorem Quh{w w2:World}{r base:Nat}{file:Int}{L:List Tok}{lv ov:Value}{i j:Nat}{D:List Qra}(h:QZa w r base file L lv ov i D)(ha:QZa w2 r base file L lv ov j D)(GH:i≤j)(k2:Qaa (· = r) w w2)(hB:w.heap.size≠r)(a b c:Value) :
 QZa (Qhe w2 w.heap.size a b c) r base file L lv ov j D:=
 h.turn (Q4a k2 (.inl (Nat.le_refl _)) a b c) (Q2f ha.holds hB a b c) ha.lt GH
theorem QCc{w w2:World}{r:Nat}{file:Int}{L:List Tok}{k:Nat}{c0:Int}(ha:Qyb w2 r file L k c0)(hB:w.heap.size≠r)(a b c:Value):Qyb (Qhe w2 w.heap.size a b c) r file L k c0:=by
 obtain⟨h0,lv,x,ov,h⟩:=ha
 exact⟨h0,lv,x,ov,Q2f h hB a b c⟩
set_option maxRecDepth 100000 in
theorem Qfj(w:World)(r base:Nat)(file:Int)(L:List Tok)(lv ov:Value)(i:Nat)(D:List Qra)(h:QZa w r base file L lv ov i D)(hk:(tkN L i).kind=3) :
 Calls Tryz.prog 130 #[.pointer (some ⟨r,0,none⟩)] w (Qic r base file L lv ov D (Qnb L i) w):=by
 obtain⟨c0,c1,c2,c3,_,_,_,f1,f2,f3,_,_,_,cl⟩:=h.cells
 obtain⟨n1,n2⟩:=h.num
 have aK:=fun wx hx=>QVj wx r base file L lv ov i D hx 3 (by decide)
 rw[show Qha L 3 (QJa 4) i = .ok (i+1)from by unfold Qha;rw[if_pos hk];rfl]at aK
 have HP:=hid (show Qnb L i = .ok (i+1,⟨2,[],txN L i⟩)from by unfold Qnb;rw[if_pos hk])
 have Gt:=hid aK
 have HH:=hid h
 obtain⟨g,cap,rfl,hg,d0,_⟩:=h.toks.at h.lt
 have gl:g<w.heap.size:=World.block_lt_of_cell? w _ d0
 have kR:=Qca.new w #[.int .i64 0,.slice none 0 0,.string ⟨#[]⟩] 75
 have mf:Qaa (fun _=>False) w (w.alloc (.cells #[.int .i64 0,.slice none 0 0,.string ⟨#[]⟩] 75)):=(Qaa.refl _ w).alloc _
 have ju:=hid kR
 have KT:=hid mf
 have G0:w.heap.size≠r:=by omega
 rw[hk]at d0
 clear h hk aK kR mf
 go_enter Tryz.func130,Tryz.ntmps130
 go_wp2_with fail
 go_quiet (fail)
 go_wp2_with fail
 refine(by exact Gt.out _ (HH.out.keeps (KT.out.drewN _)):Calls _ _ _ _ _).mono ?_
 rintro e w2 ⟨Ho,rfl,ha⟩
 have gc:=(ju.out.drewN _).keeps Ho G0
 have HA:=hid ha
 have Gs:=hid (((KT.out.drewN _).mono (S:=(· = r)) (fun _ _ e=>e.elim)).trans Ho (fun _ _ e=>e))
 have z0:=gc.cell 0
 have z1:=gc.cell 1
 have z2:=gc.cell 2
 have y0:=gc.free 0
 have y1:=gc.free 1
 have y2:=gc.free 2
 have zl:=gc.lt
 have KV:=hid gc
 clear gc ha Ho
 generalize txN L i=X at *
 go_wp2_with fail
 obtain⟨q0,q1,q2⟩:=QBb KV.out (.int .i64 2) (.slice none 0 0) (.string X)
 unfold Qhe at q0 q1 q2
 exact bodyPost_ret (v:=.agg #[.int .i64 2,.slice none 0 0,.string X]) (by simp[results,Tryz.results130,go_sem,q0,q1,q2]) rfl ⟨Q4a Gs.out (.inl (Nat.le_refl _)) _ _ _,by rw[HP.out];exact⟨_,rfl,Qea.none _ _,Quh HH.out HA.out (by omega) Gs.out G0 _ _ _⟩⟩
set_option maxRecDepth 100000 in
theorem Qej(w:World)(r base:Nat)(file:Int)(L:List Tok)(lv ov:Value)(i:Nat)(D:List Qra)(h:QZa w r base file L lv ov i D)(hk:(tkN L i).kind=6)(hb:Qna (tkN L i).text=true) :
 Calls Tryz.prog 130 #[.pointer (some ⟨r,0,none⟩)] w (Qic r base file L lv ov D (Qnb L i) w):=by
 obtain⟨c0,c1,c2,c3,_,_,_,f1,f2,f3,_,_,_,cl⟩:=h.cells
 obtain⟨n1,n2⟩:=h.num
 have aK:=fun wx hx=>Q0b wx r base file L lv ov i D hx 6 (by decide)
 rw[show Qha L 6 (QJa 3) i = .ok (i+1)from by unfold Qha;rw[if_pos hk];exact if_pos hb]at aK
 have HP:=hid (show Qnb L i = .ok (i+1,⟨4,[],txN L i⟩)from by unfold Qnb;rw[if_neg (by rw[hk];decide),if_pos hk,if_pos hb])
 clear hb
 have Gt:=hid aK
 have HH:=hid h
 obtain⟨g,cap,rfl,hg,d0,_⟩:=h.toks.at h.lt
 have gl:g<w.heap.size:=World.block_lt_of_cell? w _ d0
 have kR:=Qca.new w #[.int .i64 0,.slice none 0 0,.string ⟨#[]⟩] 75
 have mf:Qaa (fun _=>False) w (w.alloc (.cells #[.int .i64 0,.slice none 0 0,.string ⟨#[]⟩] 75)):=(Qaa.refl _ w).alloc _
 have ju:=hid kR
 have KT:=hid mf
 have G0:w.heap.size≠r:=by omega
 rw[hk]at d0
 clear h hk aK kR mf
 go_enter Tryz.func130,Tryz.ntmps130
 go_wp2_with fail
 go_quiet (fail)
 go_wp2_with fail
 go_quiet (fail)
 go_wp2_with fail
 refine(by exact Gt.out _ (HH.out.keeps (KT.out.drewN _)):Calls _ _ _ _ _).mono ?_
 rintro e w2 ⟨Ho,rfl,ha⟩
 have gc:=(ju.out.drewN _).keeps Ho G0
 have HA:=hid ha
 have Gs:=hid (((KT.out.drewN _).mono (S:=(· = r)) (fun _ _ e=>e.elim)).trans Ho (fun _ _ e=>e))
 have z0:=gc.cell 0
 have z1:=gc.cell 1
 have z2:=gc.cell 2
 have y0:=gc.free 0
 have y1:=gc.free 1
 have y2:=gc.free 2
 have zl:=gc.lt
 have KV:=hid gc
 clear gc ha Ho
 generalize txN L i=X at *
 go_wp2_with fail
 obtain⟨q0,q1,q2⟩:=QBb KV.out (.int .i64 4) (.slice none 0 0) (.string X)
 unfold Qhe at q0 q1 q2
 exact bodyPost_ret (v:=.agg #[.int .i64 4,.slice none 0 0,.string X]) (by simp[results,Tryz.results130,go_sem,q0,q1,q2]) rfl ⟨Q4a Gs.out (.inl (Nat.le_refl _)) _ _ _,by rw[HP.out];exact⟨_,rfl,Qea.none _ _,Quh HH.out HA.out (by omega) Gs.out G0 _ _ _⟩⟩
set_option maxRecDepth 100000 in
theorem Qvg(w:World)(r base:Nat)(file:Int)(L:List Tok)(lv ov:Value)(i:Nat)(D:List Qra)(h:QZa w r base file L lv ov i D)(hk:(tkN L i).kind=6)(hb:¬Qna (tkN L i).text=true) :
 Calls Tryz.prog 130 #[.pointer (some ⟨r,0,none⟩)] w (Qic r base file L lv ov D (Qnb L i) w):=by
 obtain⟨c0,c1,c2,c3,_,_,_,f1,f2,f3,_,_,_,cl⟩:=h.cells
 obtain⟨n1,n2⟩:=h.num
 have aK:=fun wx hx=>Q0b wx r base file L lv ov i D hx 6 (by decide)
 rw[show Qha L 6 (QJa 3) i = .error (i,1)from by unfold Qha;rw[if_pos hk];exact if_neg hb]at aK
 have HP:=hid (show Qnb L i = .error (i,1)from by unfold Qnb;rw[if_neg (by rw[hk];decide),if_pos hk,if_neg hb])
 clear hb
 have Gt:=hid aK
 have HH:=hid h
 obtain⟨g,cap,rfl,hg,d0,_⟩:=h.toks.at h.lt
 have gl:g<w.heap.size:=World.block_lt_of_cell? w _ d0
 have kR:=Qca.new w #[.int .i64 0,.slice none 0 0,.string ⟨#[]⟩] 75
 have mf:Qaa (fun _=>False) w (w.alloc (.cells #[.int .i64 0,.slice none 0 0,.string ⟨#[]⟩] 75)):=(Qaa.refl _ w).alloc _
 have ju:=hid kR
 have KT:=hid mf
 have G0:w.heap.size≠r:=by omega
 rw[hk]at d0
 clear h hk aK kR mf
 go_enter Tryz.func130,Tryz.ntmps130
 go_wp2_with fail
 go_quiet (fail)
 go_wp2_with fail
 go_quiet (fail)
 go_wp2_with fail
 refine(by exact Gt.out _ (HH.out.keeps (KT.out.drewN _)):Calls _ _ _ _ _).mono ?_
 rintro e w2 ⟨Ho,rfl,ha⟩
 have gc:=(ju.out.drewN _).keeps Ho G0
 have HA:=hid ha
 have Gs:=hid (((KT.out.drewN _).mono (S:=(· = r)) (fun _ _ e=>e.elim)).trans Ho (fun _ _ e=>e))
 have z0:=gc.cell 0
 have z1:=gc.cell 1
 have z2:=gc.cell 2
 have y0:=gc.free 0
 have y1:=gc.free 1
 have y2:=gc.free 2
 have zl:=gc.lt
 have KV:=hid gc
 clear gc ha Ho
 generalize txN L i=X at *
 go_wp2_with fail
 obtain⟨q0,q1,q2⟩:=QBb KV.out (.int .i64 4) (.slice none 0 0) (.string ⟨#[]⟩)
 unfold Qhe at q0 q1 q2
 exact bodyPost_ret (v:=.agg #[.int .i64 4,.slice none 0 0,.string ⟨#[]⟩]) (by simp[results,Tryz.results130,go_sem,q0,q1,q2]) rfl ⟨Q4a Gs.out (.inl (Nat.le_refl _)) _ _ _,by rw[HP.out];exact⟨⟨4,[],⟨#[]⟩⟩,_,rfl,Qea.none _ _,QCc HA.out G0 _ _ _⟩⟩
set_option maxRecDepth 100000 in
theorem Qoi(w:World)(r base:Nat)(file:Int)(L:List Tok)(lv ov:Value)(i:Nat)(D:List Qra)(h:QZa w r base file L lv ov i D)(h3:(tkN L i).kind≠3)(h6:(tkN L i).kind≠6)(hb:isK L i 4 [91]=false)(hc:isK L i 4 [60]=false) :
 Calls Tryz.prog 130 #[.pointer (some ⟨r,0,none⟩)] w (Qic r base file L lv ov D (Qnb L i) w):=by
 obtain⟨c0,c1,c2,c3,_,_,_,f1,f2,f3,_,_,_,cl⟩:=h.cells
 obtain⟨n1,n2⟩:=h.num
 have Hu:=fun wx hx=>QMb wx r base file L lv ov i D hx 4 [91] (by decide)
 have gf:=fun wx hx=>QMb wx r base file L lv ov i D hx 4 [60] (by decide)
 rw[hb]at Hu
 rw[hc]at gf
 have Kg:=hid Hu
 have mM:=hid gf
 have HF:=hid (fun wx hx=>QCb wx r base file L lv ov i D hx 6 (by decide))
 have HH:=hid h
 have HP:=hid (show Qnb L i = .error (i,6)from by unfold Qnb;rw[if_neg h3,if_neg h6,if_neg (by rw[hc];exact Bool.false_ne_true),if_neg (by rw[hb];exact Bool.false_ne_true)])
 obtain⟨g,cap,rfl,hg,d0,_⟩:=h.toks.at h.lt
 have gl:g<w.heap.size:=World.block_lt_of_cell? w _ d0
 have kR:=Qca.new w #[.int .i64 0,.slice none 0 0,.string ⟨#[]⟩] 75
 have mf:Qaa (fun _=>False) w (w.alloc (.cells #[.int .i64 0,.slice none 0 0,.string ⟨#[]⟩] 75)):=(Qaa.refl _ w).alloc _
 have ju:=hid kR
 have KT:=hid mf
 have G0:w.heap.size≠r:=by omega
 have g3:((tkN L i).kind == 3)=false:=by rw[beq_eq_false_iff_ne];exact h3
 have g6:((tkN L i).kind == 6)=false:=by rw[beq_eq_false_iff_ne];exact h6
 generalize (tkN L i).kind=kd at *
 clear h h3 h6 hb hc Hu gf kR mf
 go_enter Tryz.func130,Tryz.ntmps130
 go_wp2_with fail
 go_quiet (fail)
 go_wp2_with fail
 go_quiet (fail)
 go_wp2_with fail
 refine(by exact Kg.out _ (HH.out.keeps (KT.out.drewN _)):Calls _ _ _ _ _).mono ?_
 rintro e w1 ⟨rfl,Ht⟩
 have gZ:=(KT.out.drewN _).trans Ht (fun _ _ e=>e)
 have dy:=hid ((ju.out.drewN _).keeps Ht (fun e=>e))
 have Gg:=hid gZ
 clear gZ Ht
 go_wp2_with fail
 refine(by exact mM.out _ (HH.out.keeps Gg.out):Calls _ _ _ _ _).mono ?_
 rintro e w2 ⟨rfl,Ho⟩
 have KV:=hid (dy.out.keeps Ho (fun e=>e))
 have Gs:=hid (Gg.out.trans Ho (fun _ _ e=>e))
 clear Ho
 go_wp2_with fail
 refine(by exact HF.out _ (HH.out.keeps Gs.out):Calls _ _ _ _ _).mono ?_
 rintro e w3 ⟨rfl,Hi,Hc⟩
 have gT:=KV.out.keeps Hc G0
 have HA:=hid Hi
 have Hy:=hid ((Gs.out.mono (S:=(· = r)) (fun _ _ e=>e.elim)).trans Hc (fun _ _ e=>e))
 have z0:=gT.cell 0
 have z1:=gT.cell 1
 have z2:=gT.cell 2
 have y0:=gT.free 0
 have y1:=gT.free 1
 have y2:=gT.free 2
 have zl:=gT.lt
 have KW:=hid gT
 clear gT Hi Hc
 go_wp2_with fail
 obtain⟨q0,q1,q2⟩:=QBb KW.out (.int .i64 0) (.slice none 0 0) (.string ⟨#[]⟩)
 unfold Qhe at q0 q1 q2
 exact bodyPost_ret (v:=.agg #[.int .i64 0,.slice none 0 0,.string ⟨#[]⟩]) (by simp[results,Tryz.results130,go_sem,q0,q1,q2]) rfl ⟨Q4a Hy.out (.inl (Nat.le_refl _)) _ _ _,by rw[HP.out];exact⟨⟨0,[],⟨#[]⟩⟩,_,rfl,Qea.none _ _,QCc HA.out G0 _ _ _⟩⟩
theorem QAg(L:List Tok)(n i:Nat)(acc:List Qzb):QOb L (n+1) i acc=if isK L i 4 [62]=true then .ok (i+1,acc)else match QIf L i with
 | .error e=>.error e
 | .ok (j,c)=>QOb L n j (acc++[c]):=by
 rw[QOb]
 unfold QIf
 split
 ·rfl
 ·split
  ·split <;> rfl
  ·split <;> rfl
theorem Qcc{L:List Tok}{i:Nat}{s:List UInt8}(hs:s≠[])(h:isK L i 4 s=true):(tkN L i).kind=4∧(tkN L i).text=s:=by
 unfold isK at h
 have a9:s.isEmpty=false:=by simpa using hs
 rw[a9,Bool.false_or,Bool.and_eq_true,decide_eq_true_eq,decide_eq_true_eq]at h
 exact h
theorem Qpl{L:List Tok}{i:Nat}{s t:List UInt8}(hs:s≠[])(ht:t≠[])(h:isK L i 4 s=true)(Hq:s≠t):isK L i 4 t=false:=by
 obtain⟨_,h2⟩:=Qcc hs h
 have a9:t.isEmpty=false:=by simpa using ht
 unfold isK
 rw[a9,Bool.false_or,h2,decide_eq_false Hq,Bool.and_false]
theorem Qpn(w:World)(r base:Nat)(file:Int)(L:List Tok)(lv ov:Value)(i:Nat)(D:List Qra)(h:QZa w r base file L lv ov i D) :
 Calls Tryz.prog 143 #[.pointer (some ⟨r,0,none⟩)] w (fun e w'=>∃(x1:Int) (x2:ByteArray),e = .returned (.agg #[.int .i64 x1,.string x2])∧Qaa (· = r) w w'∧match QIf L i with
  | .ok (j,c)=>c=⟨x1,x2⟩∧QZa w' r base file L lv ov j D
  | .error (k,c)=>Qyb w' r file L k c):=by
 refine(QWo w r base file L lv ov i D h).mono ?_
 intro e w' ho
 unfold QQh at ho
 cases hc:QIf L i with
 | ok p=>
  obtain⟨j,c⟩:=p
  rw[hc]at ho
  exact⟨_,_,ho.2.1,ho.1,rfl,ho.2.2⟩
 | error p=>
  obtain⟨k,c⟩:=p
  rw[hc]at ho
  exact⟨_,_,ho.2.1,ho.1,ho.2.2⟩
theorem Q7n{L:List Tok}(ho:LOk L){i j:Nat}{c:Qzb}(hi:i<L.length)(h:QIf L i = .ok (j,c)):i<j:=by
 unfold QIf at h
 split at h
 ·split at h
  ·injection h with h;injection h with h _;omega
  ·cases h
 ·split at h
  ·cases h
  ·rename_i h2
   obtain⟨k,e,h3,_⟩:=QZe ho hi (by simpa using h2)
   injection h with h;injection h with h _
   rw[e]at h
   omega
theorem Qhk{w w6 w8:World}{r base:Nat}{file:Int}{L:List Tok}{lv ov cv v8 z0 z1 z2 b1:Value}{D:List Qra}{i j nn B2:Nat}{acc:List Qzb}{x1:Int}{x2:ByteArray}{o:Obj}{RR:Rs (Nat × List Qzb)}(hh:QZa w r base file L lv ov i D)(hj:j<L.length)
 (hM:match QIf L j with
  | .ok (j,c)=>c=⟨x1,x2⟩∧QZa w6 r base file L lv ov j D
  | .error (k,c)=>Qyb w6 r file L k c)
 (hS:(match QIf L j with
  | .error e=>.error e
  | .ok (j,c)=>QOb L nn j (acc++[c]))=RR)
 (hN:L.length+1≤j+(nn+1)∧acc.length≤j∧i≤j) (hO8:Qca w8 B2 #[.int .i64 1,b1,.string ⟨#[]⟩] 75) (hZ6:Qca w6 w.heap.size #[z0,z1,z2] 75) (hR6:Qea w6 w.heap.size cv acc) (mO:Qaa (· = r) w w6)
 (G3:w8.ownsRow w.heap.size 72 2 v8 (acc.length+1) (Qtb acc++[.int .i64 x1,.string x2])) (Ha:(w6.alloc o).grownBy w8 cv.ownBlock) (kp:w.heap.size+1≤B2) (G0:w.heap.size≠r) (j6:B2≠r) :
 ∃(acc:List Qzb) (cv:Value),Hid (Qca (w8.setCell ⟨B2,1,none⟩ v8) B2 #[.int .i64 1,cv,.string ⟨#[]⟩] 75)∧Hid (Qca (w8.setCell ⟨B2,1,none⟩ v8) w.heap.size #[z0,z1,z2] 75)∧Hid (Qea (w8.setCell ⟨B2,1,none⟩ v8) w.heap.size cv acc)∧Hid (Qaa (· = r) w (w8.setCell ⟨B2,1,none⟩ v8))∧
 ((∃j,Hid (QZa (w8.setCell ⟨B2,1,none⟩ v8) r base file L lv ov j D)∧Hid (QOb L nn j acc=RR)∧Hid (L.length+1≤j+nn∧acc.length≤j∧i≤j))∨(∃k c,Hid (RR = .error (k,c))∧Hid (Qyb (w8.setCell ⟨B2,1,none⟩ v8) r file L k c))):=by
 have mX:=fun(b:Nat) (xs:Array Value) (t:TypeId) (hx:Qca w6 b xs t) (Hq:t≠72)=>(hx.alloc o).grown Ha (QBa hR6 hx Hq)
 have jc:Qaa (· = r) w (w8.setCell ⟨B2,1,none⟩ v8):=((mO.alloc o).grown Ha (fun g hg=>by have:=(Qva hR6 hg).2.1;left;omega)).setCell (p:=⟨B2,1,none⟩) (.inl (by show w.heap.size≤B2;omega)) v8
 have Kw:Qea w8 w.heap.size v8 (acc++[⟨x1,x2⟩]):=by
  unfold Qea
  rw[QYc,List.length_append]
  exact G3
 have kG:=Qba Kw ((Qaa.refl (· = B2) w8).setCell (p:=⟨B2,1,none⟩) (.inr rfl) v8) (fun g hg e=>by cases e;exact QBa Kw hO8 (by decide) hg)
 have dV:=(mX _ _ _ hZ6 (by decide)).other ⟨B2,1,none⟩ v8 (by show w.heap.size≠B2;omega)
 refine⟨acc++[(⟨x1,x2⟩:Qzb)],v8,hid (hO8.set 1 v8),hid dV,hid kG,hid jc,?_⟩
 cases hc:QIf L j with
 | ok q=>
  obtain⟨j2,c⟩:=q
  rw[hc]at hM hS
  obtain⟨rfl,ha⟩:=hM
  have Hj:=Q7n hh.ok hj hc
  refine .inl ⟨j2,hid (hh.turn jc ((mX _ _ _ ha.holds (by decide)).other ⟨B2,1,none⟩ v8 (Ne.symm j6)) ha.lt (by omega)),hid hS,hid ⟨by omega,by simp;omega,by omega⟩⟩
 | error q=>
  obtain⟨k,c⟩:=q
  rw[hc]at hM hS
  obtain⟨h0,lv',x',ov',hx⟩:=hM
  exact .inr ⟨k,c,hid hS.symm,hid ⟨h0,lv',x',ov',(mX _ _ _ hx (by decide)).other ⟨B2,1,none⟩ v8 (Ne.symm j6)⟩⟩
set_option maxRecDepth 100000 in
theorem Qth(w:World)(r base:Nat)(file:Int)(L:List Tok)(lv ov:Value)(i:Nat)(D:List Qra)(h:QZa w r base file L lv ov i D)(hc:isK L i 4 [60]=true) :
 Calls Tryz.prog 130 #[.pointer (some ⟨r,0,none⟩)] w (Qic r base file L lv ov D (Qnb L i) w):=by
 obtain⟨c0,c1,c2,c3,_,_,_,f1,f2,f3,_,_,_,cl⟩:=h.cells
 obtain⟨n1,n2⟩:=h.num
 have Hu:=fun wx hx=>QMb wx r base file L lv ov i D hx 4 [91] (by decide)
 have gf:=fun wx hx=>QMb wx r base file L lv ov i D hx 4 [60] (by decide)
 rw[Qpl (by decide) (by decide) hc (by decide:([60]:List UInt8)≠[91])]at Hu
 rw[hc]at gf
 have Kg:=hid Hu
 have mM:=hid gf
 have HH:=hid h
 obtain⟨Hr,_⟩:=Qcc (by decide) hc
 have gP:=hid (h.ok.next h.lt (by rw[Hr];decide))
 have HP:=hid (show Qnb L i=match QOb L (Q6a L) (i+1) []with
  | .ok (j,cs)=>.ok (j,⟨1,cs,⟨#[]⟩⟩)
  | .error e=>.error e from by unfold Qnb;rw[if_neg (by rw[Hr];decide),if_neg (by rw[Hr];decide),if_pos hc];rfl)
 obtain⟨g,cap,rfl,hg,d0,_⟩:=h.toks.at h.lt
 have gl:g<w.heap.size:=World.block_lt_of_cell? w _ d0
 have kR:=Qca.new w #[.int .i64 0,.slice none 0 0,.string ⟨#[]⟩] 75
 have mf:Qaa (fun _=>False) w (w.alloc (.cells #[.int .i64 0,.slice none 0 0,.string ⟨#[]⟩] 75)):=(Qaa.refl _ w).alloc _
 have ju:=hid kR
 have KT:=hid mf
 have G0:w.heap.size≠r:=by omega
 rw[Hr]at d0
 clear h Hr hc Hu gf kR mf
 go_enter Tryz.func130,Tryz.ntmps130
 go_wp2_with fail
 go_quiet (fail)
 go_wp2_with fail
 go_quiet (fail)
 go_wp2_with fail
 refine(by exact Kg.out _ (HH.out.keeps (KT.out.drewN _)):Calls _ _ _ _ _).mono ?_
 rintro e w1 ⟨rfl,Ht⟩
 have gZ:=(KT.out.drewN _).trans Ht (fun _ _ e=>e)
 have dy:=hid ((ju.out.drewN _).keeps Ht (fun e=>e))
 have Gg:=hid gZ
 clear gZ Ht
 go_wp2_with fail
 refine(by exact mM.out _ (HH.out.keeps Gg.out):Calls _ _ _ _ _).mono ?_
 rintro e w2 ⟨rfl,Ho⟩
 have KV:=hid (dy.out.keeps Ho (fun e=>e))
 have Gs:=hid (Gg.out.trans Ho (fun _ _ e=>e))
 have h2:=HH.out.keeps Gs.out
 have H2:=hid h2
 obtain⟨_,v1,_,v3,_,_,_,u1,_,_,_,_,_,vl⟩:=h2.cells
 clear Ho h2
 go_wp2_with fail
 obtain⟨gW,gE⟩:=H2.out.step gP.out
 have hO:=Qca.newAt (B:=w2.heap.size) (w:=w2.setCell ⟨r,1,none⟩ (.int .i64 ((i:Int)+1))) (by simp) #[.int .i64 1,.slice none 0 0,.string ⟨#[]⟩] 75
 have ka:=(Qaa.refl (fun _=>False) (w2.setCell ⟨r,1,none⟩ (.int .i64 ((i:Int)+1)))).alloc (.cells #[.int .i64 1,.slice none 0 0,.string ⟨#[]⟩] 75)
 have j5:=gW.keeps ka
 have gT:=(KV.out.keeps gE G0).keeps ka (fun e=>e)
 have Hc:=((Gs.out.mono (S:=(· = r)) (fun _ _ e=>e.elim)).trans gE (fun _ _ e=>e)).trans (ka.mono (S:=(· = r)) (fun _ _ e=>e.elim)) (fun _ _ e=>e)
 have hwl:=Gs.out.size
 have eS:=KV.out.lt
 generalize (w2.setCell ⟨r,1,none⟩ (.int .i64 ((i:Int)+1))).alloc (.cells #[.int .i64 1,.slice none 0 0,.string ⟨#[]⟩] 75)=w4 at *
 obtain⟨B2,kp⟩:∃b,b=w2.heap.size:=⟨_,rfl⟩
 rw[←kp]at hO eS
 rw[←kp]
 have j6:B2≠r:=by omega
 have pq:w.heap.size+1≤B2:=by omega
 have qS:=hid hO
 have fM:=hid j5
 have KW:=hid gT
 have Hy:=hid Hc
 have kc:=HH.out.size
 obtain⟨RR,Hd⟩:∃RR,RR=QOb L (Q6a L) (i+1) []:=⟨_,rfl⟩
 rw[←Hd]at HP
 have KH:=hid Hd
 clear gW gE ka j5 hO gT Hc kp Hd Kg mM H2 KV Gs dy Gg v1 v3 u1 vl c1 c2 c3 d0 c0
 go_loopg [] (Q6a L) (fun f wr=>∃(acc:List Qzb) (cv:Value),Hid (Qca wr B2 #[.int .i64 1,cv,.string ⟨#[]⟩] 75)∧Hid (Qca wr w.heap.size #[.int .i64 0,.slice none 0 0,.string ⟨#[]⟩] 75)∧Hid (Qea wr w.heap.size cv acc)∧Hid (Qaa (· = r) w wr)∧
  ((∃j,Hid (QZa wr r base file L (.slice (some ⟨g,0,none⟩) L.length cap) ov j D)∧Hid (QOb L f j acc=RR)∧Hid (L.length+1≤j+f∧acc.length≤j∧i≤j))∨(∃k c,Hid (RR = .error (k,c))∧Hid (Qyb wr r file L k c))))
 case atStart=>exact⟨[],_,qS,KW,hid (Qea.none _ _),Hy,.inl ⟨i+1,fM,hid KH.out.symm,hid (by unfold Q6a;simp <;> omega)⟩⟩
 case round=>
  obtain⟨acc,cv,HO,HZ,HR,HK,Kq⟩:=hrel
  clear qS KW Hy fM
  rcases Kq with⟨j,HA,HS,HN⟩|⟨k,c,HE,HB⟩
  ·obtain⟨_,d1,_,d3,_,_,_,u1,_,_,_,_,_,dl⟩:=HA.out.cells
   have aj:=HN.out
   have bI:=HA.out.lt
   have tQ:=HA.out.ok.len
   have KS:=hid (fun wx hx=>QMb wx r base file L (.slice (some ⟨g,0,none⟩) L.length cap) ov j D hx 4 [62] (by decide))
   cases hg:isK L j 4 [62]with
   | true=>
    rw[hg]at KS
    obtain⟨nn,mR⟩:∃nn,nn+1=gk:=⟨gk-1,by omega⟩
    have hS:=HS.out
    rw[←mR,QAg,if_pos hg]at hS
    have Hh:=hid hS.symm
    have gh:=hid (fun wx hx=>Qob wx r base file L (.slice (some ⟨g,0,none⟩) L.length cap) ov j D hx [62] (by decide))
    have HG:=hid hg
    clear hS hg mR
    go_wp2_with fail
    refine(by exact KS.out _ HA.out:Calls _ _ _ _ _).mono ?_
    rintro e w5 ⟨rfl,Hs⟩
    have Mk:=hid (HA.out.keeps Hs)
    have ic:=hid (HO.out.keeps Hs (fun e=>e))
    have K5:=hid (HZ.out.keeps Hs (fun e=>e))
    have jp:=hid (HR.out.keeps Hs (QNa.nil _))
    have GS:=hid (HK.out.trans Hs (fun _ _ e=>e.elim))
    clear Hs
    go_wp2_with fail
    refine(by exact gh.out _ Mk.out:Calls _ _ _ _ _).mono ?_
    rintro e w6 ⟨rfl,Hw,ht,_⟩
    have KB:=hid (ht HG.out)
    obtain⟨va,vc,rfl⟩:=Qma jp.out
    have JT:=ic.out.keeps Hw j6
    have Gb:=K5.out.keeps Hw G0
    have K3:=hid (jp.out.keeps Hw (QNa.one Mk.out.holds (by decide) (by decide) (by decide)))
    have gC:=hid (GS.out.trans Hw (fun _ _ e=>e))
    have o0:=JT.cell 0
    have o1:=JT.cell 1
    have o2:=JT.cell 2
    have ol:=JT.lt
    have z0:=Gb.cell 0
    have z1:=Gb.cell 1
    have z2:=Gb.cell 2
    have y0:=Gb.free 0
    have y1:=Gb.free 1
    have y2:=Gb.free 2
    have zl:=Gb.lt
    have ce:=hid Gb
    clear JT Gb ht Hw
    go_wp2_with fail
    obtain⟨q0,q1,q2⟩:=QBb ce.out (.int .i64 1) (.slice va acc.length vc) (.string ⟨#[]⟩)
    have Hb:=Qea.lower (Qba K3.out (Q4a (Qaa.refl (· = w.heap.size) w6) (.inr rfl) (.int .i64 1) (.slice va acc.length vc) (.string ⟨#[]⟩)) (fun g hg e=>by cases e;exact QBa K3.out ce.out (by decide) hg)) kc
    unfold Qhe at q0 q1 q2
    exact bodyPost_ret (v:=.agg #[.int .i64 1,.slice va acc.length vc,.string ⟨#[]⟩]) (by simp[results,Tryz.results130,go_sem,q0,q1,q2]) rfl ⟨Q4a gC.out (.inl (Nat.le_refl _)) _ _ _,by rw[HP.out,Hh.out];exact⟨_,rfl,Hb,Quh HH.out KB.out (by have:=HN.out;omega) gC.out G0 _ _ _⟩⟩
   | false=>
    rw[hg]at KS
    obtain⟨nn,mR⟩:∃nn,nn+1=gk:=⟨gk-1,by omega⟩
    have hS:=HS.out
    rw[←mR,QAg,if_neg (by rw[hg];exact Bool.false_ne_true)]at hS
    have jP:=hid hS
    have JH:=hid mR
    clear hS hg mR
    go_wp2_with fail
    refine(by exact KS.out _ HA.out:Calls _ _ _ _ _).mono ?_
    rintro e w5 ⟨rfl,Hs⟩
    have Mk:=hid (HA.out.keeps Hs)
    have ic:=hid (HO.out.keeps Hs (fun e=>e))
    have K5:=hid (HZ.out.keeps Hs (fun e=>e))
    have jp:=hid (HR.out.keeps Hs (QNa.nil _))
    have GS:=hid (HK.out.trans Hs (fun _ _ e=>e.elim))
    clear Hs
    obtain⟨va,vc,rfl⟩:=Qma jp.out
    have o1:=ic.out.cell 1
    have ol:=ic.out.lt
    have be:=hid (fun wx hx=>Qpn wx r base file L (.slice (some ⟨g,0,none⟩) L.length cap) ov j D hx)
    have aY:acc.length≤10000:=by have:=HN.out;omega
    have rT:w.heap.size≤w5.heap.size:=GS.out.size
    obtain⟨i0,hi,GL,GM,GN⟩:=info_parts Qbh
    go_wp2_with fail
    go_region_law (first | (go_simp;go_at_call 143;refine(by exact be.out _ (by exact Mk.out.keeps ((Qaa.refl _ _).drew)):Calls _ _ _ _ _).mono ?_;rintro e w6 ⟨x1,x2,rfl,Hw,fF⟩;have KG:=hid fF;clear fF;have Mf:=((Qaa.refl (fun _=>False) w5).drew);have gA:=((Mf.mono (S:=(· = r)) (fun _ _ e=>e.elim)).trans Hw (fun _ _ e=>e));have ie:=hid (ic.out.keeps gA j6);have ce:=hid (K5.out.keeps gA G0);have K3:=hid (jp.out.keeps gA (QNa.one Mk.out.holds (by decide) (by decide) (by decide)));have gC:=hid (GS.out.trans gA (fun _ _ e=>e));have hbz6:w.heap.size≤w6.heap.size:=gC.out.size;have o16:=ie.out.cell 1;have of16:=ie.out.free 1;have ol6:=ie.out.lt;clear Mf gA Hw) | (refine step_append_lies _ (by rfl) _ _ _ (by rfl) w.heap.size 72 i0 _ 2 24 Tryz.underlying73 hi GL GM GN rfl (by omega) _ acc.length (Qtb acc) (by rfl) (World.ownsRow.alloc K3.out (.cells #[.int .i64 x1,.string x2] 72)) ⟨w6.heap.size,0,none⟩ 1 1 [.int .i64 x1,.string x2] (by rfl) (by rfl) (World.news_of_block (cs:=#[.int .i64 x1,.string x2]) (t:=72) (fr:=(0,0)) (heap_alloc_new w6 _)) (by simp[Value.oneCell']) (by omega) (by unfold maxLen;omega) (by omega) (by simp;omega) (w6.heap.size+1) (by simp) ?_;intro gg cap2 w8 G3 Ha GY ew;have nj:=hid ((ie.out.alloc (.cells #[.int .i64 x1,.string x2] 72)).grown Ha (QBa K3.out ie.out (by decide)));have o18:=nj.out.cell 1;have of18:=nj.out.free 1;have ol8:=nj.out.lt))
    all_goals
     have M4:=Qhk HH.out HA.out.lt KG.out jP.out (by have h1:=HN.out;have h2:=JH.out;omega) nj.out ce.out K3.out gC.out G3 Ha pq G0 j6
     have ns:=hid M4
     clear M4 G3 Ha GY o18 of18 o16 of16
     go_wp2_with fail
     go_roundg nn
     case measure=>have:=JH.out;omega
     case rel=>exact ns.out
  ·obtain⟨kX,lv',x',ov',hH⟩:=HB.out
   have b3:=hH.cell 3
   have bl:=hH.lt
   have fz:(c == 0)=false:=by rw[beq_eq_false_iff_ne];exact kX
   clear hH kX
   go_wp2_with fail
   refine(by exact Qoa wr r file L k c HB.out ⟨#[62]⟩:Calls _ _ _ _ _).mono ?_
   rintro e w5 ⟨rfl,rfl⟩
   obtain⟨va,vc,rfl⟩:=Qma HR.out
   have JT:=HO.out
   have Gb:=HZ.out
   have o0:=JT.cell 0
   have o1:=JT.cell 1
   have o2:=JT.cell 2
   have ol:=JT.lt
   have z0:=Gb.cell 0
   have z1:=Gb.cell 1
   have z2:=Gb.cell 2
   have y0:=Gb.free 0
   have y1:=Gb.free 1
   have y2:=Gb.free 2
   have zl:=Gb.lt
   clear JT Gb
   go_wp2_with fail
   obtain⟨q0,q1,q2⟩:=QBb HZ.out (.int .i64 1) (.slice va acc.length vc) (.string ⟨#[]⟩)
   have Hb:=Qea.lower (Qba HR.out (Q4a (Qaa.refl (· = w.heap.size) wr) (.inr rfl) (.int .i64 1) (.slice va acc.length vc) (.string ⟨#[]⟩)) (fun g hg e=>by cases e;exact QBa HR.out HZ.out (by decide) hg)) kc
   unfold Qhe at q0 q1 q2
   exact bodyPost_ret (v:=.agg #[.int .i64 1,.slice va acc.length vc,.string ⟨#[]⟩]) (by simp[results,Tryz.results130,go_sem,q0,q1,q2]) rfl ⟨Q4a HK.out (.inl (Nat.le_refl _)) _ _ _,by rw[HP.out,HE.out];exact⟨⟨1,acc,⟨#[]⟩⟩,_,rfl,Hb,QCc HB.out G0 _ _ _⟩⟩
theorem Qgk{w w5 w8:World}{r base:Nat}{file:Int}{L:List Tok}{lv ov cv v8 z0 z1 z2:Value}{D:List Qra}{i j:Nat}{acc:List UInt8}{vv:Int}{o:Obj}(hh:QZa w r base file L lv ov i D)(GH:i≤j)(ha:QZa w5 r base file L lv ov j D)(hj:j+1<L.length)
 (Kz:Qca w5 w.heap.size #[z0,z1,z2] 75) (hR5:w5.ownsRow w.heap.size 5 1 cv acc.length (Lib.byteCells acc)) (kt:Qaa (· = r) w w5)
 (G3:w8.ownsRow w.heap.size 5 1 v8 (acc.length+1) (Lib.byteCells acc++[.int .u8 (vv % 256)])) {q:Nat} (Ha:((w5.drewN q).alloc o).grownBy w8 cv.ownBlock) (G0:w.heap.size≠r) :
 (w8.cell? ⟨r,1,none⟩=some (.int .i64 j)∧w8.frozen? ⟨r,1,none⟩=false∧r<w8.heap.size)∧Qca (w8.setCell ⟨r,1,none⟩ (.int .i64 ((j:Int)+1))) w.heap.size #[z0,z1,z2] 75∧
 (w8.setCell ⟨r,1,none⟩ (.int .i64 ((j:Int)+1))).ownsRow w.heap.size 5 1 v8 (acc++[(vv % 256).toNat.toUInt8]).length (Lib.byteCells (acc++[(vv % 256).toNat.toUInt8]))∧Qaa (· = r) w (w8.setCell ⟨r,1,none⟩ (.int .i64 ((j:Int)+1)))∧
 QZa (w8.setCell ⟨r,1,none⟩ (.int .i64 ((j:Int)+1))) r base file L lv ov (j+1) D:=by
 have mX:=fun(b:Nat) (xs:Array Value) (t:TypeId) (hx:Qca w5 b xs t) (Hq:t≠5)=>((hx.drewN q).alloc o).grown Ha (QBa hR5 hx Hq)
 have iG:=mX _ _ _ ha.holds (by decide)
 have kf:=(Qaa.refl (· = r) w8).setCell (p:=⟨r,1,none⟩) (.inr rfl) (.int .i64 ((j:Int)+1))
 have j8:Qaa (· = r) w w8:=((kt.drewN q).alloc o).grown Ha (fun g hg=>by have:=(Qva hR5 hg).2.1;left;omega)
 have jc:=j8.trans kf (fun _ _ e=>e)
 have Kw:w8.ownsRow w.heap.size 5 1 v8 (acc++[(vv % 256).toNat.toUInt8]).length (Lib.byteCells (acc++[(vv % 256).toNat.toUInt8])):=by
  rw[QUh,List.length_append]
  exact G3
 have kG:=Qba Kw kf (fun g hg e=>by cases e;exact QBa Kw iG (by decide) hg)
 have e1:(j:Int)+1=((j+1:Nat):Int):=by omega
 have jb:=iG.set 1 (.int .i64 ((j:Int)+1))
 exact⟨⟨iG.cell 1,iG.free 1,iG.lt⟩,(mX _ _ _ Kz (by decide)).keeps kf G0,kG,jc,hh.turn jc (by rw[←e1];exact jb) hj (by omega)⟩
set_option maxRecDepth 100000 in
theorem Qsh(w:World)(r base:Nat)(file:Int)(L:List Tok)(lv ov:Value)(i:Nat)(D:List Qra)(h:QZa w r base file L lv ov i D)(hc:isK L i 4 [91]=true) :
 Calls Tryz.prog 130 #[.pointer (some ⟨r,0,none⟩)] w (Qic r base file L lv ov D (Qnb L i) w):=by
 obtain⟨c0,c1,c2,c3,_,_,_,f1,f2,f3,_,_,_,cl⟩:=h.cells
 obtain⟨n1,n2⟩:=h.num
 have Hu:=fun wx hx=>QMb wx r base file L lv ov i D hx 4 [91] (by decide)
 rw[hc]at Hu
 have Kg:=hid Hu
 have HH:=hid h
 obtain⟨Hr,_⟩:=Qcc (by decide) hc
 have gP:=hid (h.ok.next h.lt (by rw[Hr];decide))
 have HP:=hid (show Qnb L i=match QMc L (Q6a L) (i+1) []with
  | .ok (j,b)=>.ok (j,⟨3,[],⟨b.toArray⟩⟩)
  | .error e=>.error e from by unfold Qnb;rw[if_neg (by rw[Hr];decide),if_neg (by rw[Hr];decide),if_neg (by rw[Qpl (by decide) (by decide) hc (by decide:([91]:List UInt8)≠[60])];exact Bool.false_ne_true),if_pos hc];rfl)
 obtain⟨g,cap,rfl,hg,d0,_⟩:=h.toks.at h.lt
 have gl:g<w.heap.size:=World.block_lt_of_cell? w _ d0
 have kR:=Qca.new w #[.int .i64 0,.slice none 0 0,.string ⟨#[]⟩] 75
 have mf:Qaa (fun _=>False) w (w.alloc (.cells #[.int .i64 0,.slice none 0 0,.string ⟨#[]⟩] 75)):=(Qaa.refl _ w).alloc _
 have ju:=hid kR
 have KT:=hid mf
 have G0:w.heap.size≠r:=by omega
 rw[Hr]at d0
 clear h Hr hc Hu kR mf
 go_enter Tryz.func130,Tryz.ntmps130
 go_wp2_with fail
 go_quiet (fail)
 go_wp2_with fail
 go_quiet (fail)
 go_wp2_with fail
 refine(by exact Kg.out _ (HH.out.keeps (KT.out.drewN _)):Calls _ _ _ _ _).mono ?_
 rintro e w1 ⟨rfl,Ht⟩
 have gZ:=(KT.out.drewN _).trans Ht (fun _ _ e=>e)
 have dy:=hid ((ju.out.drewN _).keeps Ht (fun e=>e))
 have Gg:=hid gZ
 clear gZ Ht
 have h2:=HH.out.keeps Gg.out
 have H2:=hid h2
 obtain⟨_,v1,_,v3,_,_,_,u1,_,_,_,_,_,vl⟩:=h2.cells
 clear h2
 go_wp2_with fail
 obtain⟨gW,gE⟩:=H2.out.step gP.out
 have gT:=dy.out.keeps gE G0
 have Hc:=(Gg.out.mono (S:=(· = r)) (fun _ _ e=>e.elim)).trans gE (fun _ _ e=>e)
 have fM:=hid gW
 have KW:=hid gT
 have Hy:=hid Hc
 have kc:=HH.out.size
 obtain⟨RR,Hd⟩:∃RR,RR=QMc L (Q6a L) (i+1) []:=⟨_,rfl⟩
 rw[←Hd]at HP
 have KH:=hid Hd
 generalize w1.setCell ⟨r,1,none⟩ (.int .i64 ((i:Int)+1))=w4 at *
 clear gW gE gT Hc Hd Kg H2 dy Gg v1 v3 u1 vl c1 c2 c3 d0 c0
 go_loopg [3] (Q6a L) (fun f x wr=>∃(acc:List UInt8) (j:Nat),Hid (Qca wr w.heap.size #[.int .i64 0,.slice none 0 0,.string ⟨#[]⟩] 75)∧Hid (wr.ownsRow w.heap.size 5 1 x acc.length (Lib.byteCells acc))∧Hid (Qaa (· = r) w wr)∧
  Hid (QZa wr r base file L (.slice (some ⟨g,0,none⟩) L.length cap) ov j D)∧Hid (QMc L f j acc=RR)∧Hid (L.length+1≤j+f∧acc.length≤j∧i≤j))
 case atStart=>exact⟨[],i+1,KW,hid (World.ownsRow_nil _ _ _ _),Hy,fM,hid KH.out.symm,hid (by unfold Q6a;simp <;> omega)⟩
 case round=>
  obtain⟨acc,j,HZ,HR,HK,HA,HS,HN⟩:=hrel
  clear KW Hy fM
  have aj:=HN.out
  have bI:=HA.out.lt
  have tQ:=HA.out.ok.len
  obtain⟨d1,d2,d3,d4,_,_,_,e1,e2,e3,_,_,_,dl⟩:=HA.out.cells
  obtain⟨g2,cap2,he,_,t0,_,t2,_⟩:=HA.out.toks.at bI
  cases he
  obtain⟨nn,mR⟩:∃nn,nn+1=gk:=⟨gk-1,by omega⟩
  have hS:=HS.out
  rw[←mR,QMc]at hS
  have JH:=hid mR
  have glr:g<wr.heap.size:=World.block_lt_of_cell? wr _ t0
  have sm:(j:Int)<(L.length:Int):=by omega
  have hjJ:(j:Int)<10000:=by omega
  clear mR
  by_cases hk:(tkN L j).kind=2
  ·have lM:isK L j 4 [93]=false:=by unfold isK;rw[hk];rfl
   rw[lM,if_neg Bool.false_ne_true,if_neg (by rw[hk];decide)]at hS
   rw[hk]at t0
   have bi:=hid (HA.out.ok.next bI (by rw[hk];decide))
   generalize (tkN L j).value=vv at *
   clear hk lM
   by_cases hv:255<vv
   ·rw[if_pos hv]at hS
    have HE:=hid hS.symm
    clear hS
    go_wp2_with fail
    go_quiet (fail)
    go_wp2_with fail
    go_quiet (fail)
    go_wp2_with fail
    refine(by exact QCb _ r base file L (.slice (some ⟨g,0,none⟩) L.length cap) ov j D (HA.out.keeps (Qda _ _)) 2 (by decide):Calls _ _ _ _ _).mono ?_
    rintro e w6 ⟨rfl,Hi,Hw⟩
    have MC:=((Qda wr _).mono (S:=(· = r)) (fun _ _ e=>e.elim)).trans Hw (fun _ _ e=>e)
    have Gb:=HZ.out.keeps MC G0
    have K3:=hid (Qba HR.out MC (fun g hg e=>by cases e;exact QBa HR.out HA.out.holds (by decide) hg))
    have gC:=hid (HK.out.trans MC (fun _ _ e=>e))
    have HB:=hid Hi
    have Jc:=Q7d K3.out
    obtain⟨va,vc,rfl⟩:=Qma K3.out
    have z0:=Gb.cell 0
    have z1:=Gb.cell 1
    have z2:=Gb.cell 2
    have y0:=Gb.free 0
    have y1:=Gb.free 1
    have y2:=Gb.free 2
    have zl:=Gb.lt
    have ce:=hid Gb
    clear Gb Hi MC Hw
    go_wp2_with fail
    refine(by exact Qoa w6 r file L j 2 HB.out ⟨#[93]⟩:Calls _ _ _ _ _).mono ?_
    rintro e w7 ⟨rfl,rfl⟩
    go_wp2_with fail
    obtain⟨q0,q1,q2⟩:=QBb ce.out (.int .i64 3) (.slice none 0 0) (.string ⟨acc.toArray⟩)
    unfold Qhe at q0 q1 q2
    exact bodyPost_ret (v:=.agg #[.int .i64 3,.slice none 0 0,.string ⟨acc.toArray⟩]) (by simp[results,Tryz.results130,go_sem,q0,q1,q2]) rfl ⟨Q4a gC.out (.inl (Nat.le_refl _)) _ _ _,by rw[HP.out,HE.out];exact⟨⟨3,[],⟨acc.toArray⟩⟩,_,rfl,Qea.none _ _,QCc HB.out G0 _ _ _⟩⟩
   ·rw[if_neg hv]at hS
    have jP:=hid hS
    clear hS
    have aJ:vv≤255:=by omega
    go_wp2_with fail
    go_quiet (fail)
    go_wp2_with fail
    go_quiet (fail)
    go_wp2_with fail
    generalize km:wr.drewN _=w5
    have Hs:Qaa (fun _=>False) wr w5:=by rw[←km];exact Qda _ _
    have Mk:=hid (HA.out.keeps Hs)
    obtain⟨b0,b1,_,b3,_,_,_,a1,_,a3,_,_,_,bl⟩:=Mk.out.cells
    have t25:=(Hs.cell (p:=⟨g,j*6+2,none⟩) glr (fun e=>e)).trans t2
    have gl5:g<w5.heap.size:=Nat.lt_of_lt_of_le glr Hs.size
    have K5:=hid (HZ.out.keeps Hs (fun e=>e))
    have jp:=hid (Qba HR.out Hs (fun _ _ e=>e))
    have GS:=hid (HK.out.trans Hs (fun _ _ e=>e.elim))
    have hbz5:w.heap.size≤w5.heap.size:=GS.out.size
    have aY:acc.length≤10000:=by have:=HN.out;omega
    clear km Hs
    obtain⟨va,vc,rfl⟩:=Qma jp.out
    obtain⟨i0,hi,GL,GM,GN⟩:=info_parts Qai
    go_region_law (refine step_append_lies _ (by rfl) _ _ _ (by rfl) w.heap.size 5 i0 _ 1 1 Tryz.underlying76 hi GL GM GN rfl (by omega) _ acc.length (Lib.byteCells acc) (by rfl) (World.ownsRow.alloc (show w5.drew.ownsRow w.heap.size 5 1 _ acc.length (Lib.byteCells acc)from jp.out) (.cells #[.int .u8 (vv % 256)] 5)) ⟨w5.heap.size,0,none⟩ 1 1 [.int .u8 (vv % 256)] (by rfl) (by rfl) (World.news_of_block (cs:=#[.int .u8 (vv % 256)]) (t:=5) (fr:=(0,0)) (heap_alloc_new w5.drew _)) (by simp[Value.oneCell']) (by omega) (by unfold maxLen;omega) (by omega) (by simp;omega) (w5.heap.size+1) (by simp) ?_;intro gg cap2 w8 G3 Ha GY ew)
    all_goals
     obtain⟨⟨p1,p2,p3⟩,T1,T2,T3,T4⟩:=Qgk HH.out (by have:=HN.out;omega) Mk.out bi.out K5.out jp.out GS.out G3 Ha G0
     have TT1:=hid T1
     have TT2:=hid T2
     have TT3:=hid T3
     have TT4:=hid T4
     clear T1 T2 T3 T4 G3 Ha GY
     go_wp2_with fail
     go_roundg nn
     case measure=>have:=JH.out;omega
     case rel=>exact⟨_,j+1,TT1,TT2,TT3,TT4,jP,hid (by have h1:=HN.out;have h2:=JH.out;simp;omega)⟩
  ·have kA:((tkN L j).kind == 2)=false:=by rw[beq_eq_false_iff_ne];exact hk
   rw[if_pos hk]at hS
   have gh:=hid (fun wx hx=>Qob wx r base file L (.slice (some ⟨g,0,none⟩) L.length cap) ov j D hx [93] (by decide))
   have jP:=hid hS
   generalize (tkN L j).kind=kd at *
   clear hk hS
   go_wp2_with fail
   go_quiet (fail)
   go_wp2_with fail
   refine(by exact gh.out _ (HA.out.keeps (Qda _ _)):Calls _ _ _ _ _).mono ?_
   rintro e w6 ⟨rfl,Hw,ht,hf⟩
   have MC:=((Qda wr _).mono (S:=(· = r)) (fun _ _ e=>e.elim)).trans Hw (fun _ _ e=>e)
   have Gb:=HZ.out.keeps MC G0
   have K3:=hid (Qba HR.out MC (fun g hg e=>by cases e;exact QBa HR.out HA.out.holds (by decide) hg))
   have gC:=hid (HK.out.trans MC (fun _ _ e=>e))
   have HT:=hid (And.intro ht hf)
   have Jc:=Q7d K3.out
   obtain⟨va,vc,rfl⟩:=Qma K3.out
   have z0:=Gb.cell 0
   have z1:=Gb.cell 1
   have z2:=Gb.cell 2
   have y0:=Gb.free 0
   have y1:=Gb.free 1
   have y2:=Gb.free 2
   have zl:=Gb.lt
   have ce:=hid Gb
   clear Gb ht hf MC Hw
   go_wp2_with fail
   obtain⟨q0,q1,q2⟩:=QBb ce.out (.int .i64 3) (.slice none 0 0) (.string ⟨acc.toArray⟩)
   unfold Qhe at q0 q1 q2
   cases hg:isK L j 4 [93]with
   | true=>
    have e1:=jP.out
    rw[hg,if_pos rfl]at e1
    exact bodyPost_ret (v:=.agg #[.int .i64 3,.slice none 0 0,.string ⟨acc.toArray⟩]) (by simp[results,Tryz.results130,go_sem,q0,q1,q2]) rfl ⟨Q4a gC.out (.inl (Nat.le_refl _)) _ _ _,by rw[HP.out,←e1];exact⟨_,rfl,Qea.none _ _,Quh HH.out (HT.out.1 hg) (by have:=HN.out;omega) gC.out G0 _ _ _⟩⟩
   | false=>
    have e1:=jP.out
    rw[hg,if_neg Bool.false_ne_true]at e1
    exact bodyPost_ret (v:=.agg #[.int .i64 3,.slice none 0 0,.string ⟨acc.toArray⟩]) (by simp[results,Tryz.results130,go_sem,q0,q1,q2]) rfl ⟨Q4a gC.out (.inl (Nat.le_refl _)) _ _ _,by rw[HP.out,←e1];exact⟨⟨3,[],⟨acc.toArray⟩⟩,_,rfl,Qea.none _ _,QCc (HT.out.2 hg) G0 _ _ _⟩⟩
theorem QXo(w:World)(r base:Nat)(file:Int)(L:List Tok)(lv ov:Value)(i:Nat)(D:List Qra)(h:QZa w r base file L lv ov i D) :
 Calls Tryz.prog 130 #[.pointer (some ⟨r,0,none⟩)] w (Qic r base file L lv ov D (Qnb L i) w):=by
 by_cases h3:(tkN L i).kind=3
 ·exact Qfj w r base file L lv ov i D h h3
 ·by_cases h6:(tkN L i).kind=6
  ·by_cases hb:Qna (tkN L i).text=true
   ·exact Qej w r base file L lv ov i D h h6 hb
   ·exact Qvg w r base file L lv ov i D h h6 hb
  ·cases hc:isK L i 4 [60]with
   | true=>exact Qth w r base file L lv ov i D h hc
   | false=>
    cases hb:isK L i 4 [91]with
    | true=>exact Qsh w r base file L lv ov i D h hb
    | false=>exact Qoi w r base file L lv ov i D h h3 h6 hb hc
set_option maxRecDepth 100000 in
theorem Q3a(w:World)(r:Nat)(file:Int)(L:List Tok)(k:Nat)(c:Int)(h:Qyb w r file L k c)(a0:Int)(a1 a2:ByteArray)(x:Option Addr)(n m:Nat)(a4 a5 a6:Int) :
 Calls Tryz.prog 64 #[.pointer (some ⟨r,0,none⟩),.agg #[.int .i64 a0,.string a1,.string a2,.slice x n m,.int .i64 a4,.int .i64 a5,.int .i64 a6]] w fun e w'=>e = .returned (.tuple #[])∧Qyb w' r file L k c∧Qaa (fun _=>False) w w':=by
 have HH:=hid h
 obtain⟨h0,lv,x,ov,hH⟩:=h
 have c3:=hH.cell 3
 have cl:=hH.lt
 have hb:(c == 0)=false:=by rw[beq_eq_false_iff_ne];exact h0
 clear hH h0
 go_enter Tryz.func64,Tryz.ntmps64
 go_wp2_with fail
 go_end0
 exact⟨rfl,HH.out.keeps ((Qaa.refl (fun _=>False) w).alloc _) (fun e=>e),(Qaa.refl (fun _=>False) w).alloc _⟩
set_option maxRecDepth 100000 in
theorem Qac(w:World)(r:Nat)(file:Int)(L:List Tok)(k:Nat)(c:Int)(h:Qyb w r file L k c)(d:Nat)(hd:(d:Int)≤1000000) :
 Calls Tryz.prog 66 #[.pointer (some ⟨r,0,none⟩),.int .i64 (d:Int)] w fun e w'=>e = .returned (.tuple #[])∧w=w':=by
 have HT:=hid (fun s=>Qoa w r file L k c h s)
 obtain⟨h0,lv,x,ov,hH⟩:=h
 have c3:=hH.cell 3
 have cl:=hH.lt
 have hb:(c == 0)=false:=by rw[beq_eq_false_iff_ne];exact h0
 clear hH h0
 go_enter Tryz.func66,Tryz.ntmps66
 go_wp2_with fail
 refine(by exact HT.out ⟨#[123]⟩:Calls _ _ _ _ _).mono ?_
 rintro e w1 ⟨rfl,rfl⟩
 go_wp2_with fail
 go_loopg [] 1 (fun f wr=>w=wr)
 case atStart=>rfl
 case round=>
  obtain rfl:=hrel
  go_wp2_with fail
  refine(by exact HT.out ⟨#[125]⟩:Calls _ _ _ _ _).mono ?_
  rintro e w1 ⟨rfl,rfl⟩
  go_wp2_with fail
  go_end0
  exact⟨rfl,rfl⟩
theorem Qmb(w:World)(r base:Nat)(file:Int)(L:List Tok)(lv ov:Value)(i:Nat)(D:List Qra)(d:Qra)(pv:Value)(h:QZa w r base file L lv ov i D)(hp:Qia w base pv d.parts)(hc:D.length≤2*i) :
 Calls Tryz.prog 64 #[.pointer (some ⟨r,0,none⟩),Q5b file d pv] w fun e w'=>e = .returned (.tuple #[])∧∃ov',QZa w' r base file L lv ov' i (D++[d])∧Below base w w':=by
 have Ks:=h.ok.len
 have KQ:=h.lt
 refine(QQp w r base file lv (.int .i64 i) ov D d pv ⟨h.holds,h.defs,h.low,h.size⟩ hp (by omega)).mono ?_
 rintro e w' ⟨rfl,ov',hr,hk⟩
 have gB:∀b,(b=r∨ov.ownBlock=some b)→base≤b:=by
  rintro b (rfl|hb)
  ·exact h.low
  ·obtain⟨_,_,Hb,_⟩:=h.defs
   exact(Qva Hb hb).2.1
 have hb:Below base w w':=hk.below h.size (fun b He Hn=>by have:=gB b Hn;omega)
 refine⟨rfl,ov',⟨hr.1,h.toks.keeps hk gB,hr.2.1,h.low,Nat.le_trans h.size hk.size,h.lt,h.ok,?_⟩,hb⟩
 rw[List.length_append]
 simp
 omega
def QVb(r base:Nat)(file:Int)(L:List Tok)(lv:Value)(D:List Qra)(R:Rs (Nat × List Qra))(w:World)(e:Ending)(w':World):Prop:=
 e = .returned (.tuple #[])∧Below base w w'∧match R with
  | .ok (j,ds)=>∃ov,QZa w' r base file L lv ov j (D++ds)∧D.length+ds.length≤2*j
  | .error (k,c)=>Qyb w' r file L k c
set_option maxRecDepth 100000 in
theorem Qtg(w:World)(r base:Nat)(file:Int)(L:List Tok)(lv ov:Value)(i:Nat)(D:List Qra)(h:QZa w r base file L lv ov i D)(dp:Nat)(K9:(dp:Int)≤1000000)(hk:(tkN L i).kind=7)(h1:isK L i 7 [100,101,108,101,116,101,45,112,114,111,112,101,114,116,121]=false)(h2:isK L i 7 [100,101,108,101,116,101,45,110,111,100,101]=false) :
 Calls Tryz.prog 109 #[.pointer (some ⟨r,0,none⟩),.int .i64 (dp:Int)] w (QVb r base file L lv D (.error (i,6)) w):=by
 obtain⟨c0,c1,c2,c3,_,_,_,f1,f2,f3,_,_,_,cl⟩:=h.cells
 obtain⟨n1,n2⟩:=h.num
 have Hu:=fun wx hx=>QMb wx r base file L lv ov i D hx 7 [100,101,108,101,116,101,45,112,114,111,112,101,114,116,121] (by decide)
 have gf:=fun wx hx=>QMb wx r base file L lv ov i D hx 7 [100,101,108,101,116,101,45,110,111,100,101] (by decide)
 rw[h1]at Hu
 rw[h2]at gf
 have Kg:=hid Hu
 have mM:=hid gf
 have HF:=hid (fun wx hx=>QCb wx r base file L lv ov i D hx 6 (by decide))
 have HH:=hid h
 obtain⟨g,cap,rfl,hg,d0,d1,d2,d3,d4,d5⟩:=h.toks.at h.lt
 have gl:g<w.heap.size:=World.block_lt_of_cell? w _ d0
 rw[hk]at d0
 generalize (tkN L i).line=tl at *
 generalize (tkN L i).col=tc at *
 have hN:=Qca.new w #[.int .i64 0,.int .i64 0,.int .i64 0] 27
 have Hk:Below w.heap.size w (w.alloc (.cells #[.int .i64 0,.int .i64 0,.int .i64 0] 27)):=(Below.refl _ _).alloc (Nat.le_refl _) _
 have c0':=(Hk.cell cl).trans c0
 have c1':=(Hk.cell cl).trans c1
 have d3':=(Hk.cell gl).trans d3
 have d4':=(Hk.cell gl).trans d4
 have d5':=(Hk.cell gl).trans d5
 obtain⟨m0,m1,m2,mf0,mf1,mf2,ml⟩:=three hN
 have hM:=(Qca.new w #[.int .i64 file,.int .i64 tl,.int .i64 tc] 27).drew
 have Hc:Qaa (fun _=>False) w (w.alloc (.cells #[.int .i64 file,.int .i64 tl,.int .i64 tc] 27)).drew:=((Qaa.refl _ w).alloc _).drew
 have h3:=h.keeps Hc
 obtain⟨x0,x1,x2,_,_,_,xl⟩:=three hM
 obtain⟨y0,y1,_,y3,_,_,_,z1,_,z3,_,_,_,yl⟩:=h3.cells
 have e0:=(Hc.cell (p:=⟨g,i*6,none⟩) gl (fun e=>e)).trans d0
 have gl3:=Nat.lt_of_lt_of_le gl Hc.size
 have H3:=hid h3
 have Hy:=hid Hc
 have HM:=hid hM
 clear h hk h1 h2 Hu gf hN Hk hM Hc h3
 go_enter Tryz.func109,Tryz.ntmps109
 go_wp2_with fail
 go_region
 generalize (w.alloc (.cells #[.int .i64 file,.int .i64 tl,.int .i64 tc] 27)).drew=w3 at *
 go_wp2_with fail
 go_quiet (fail)
 go_wp2_with fail
 refine(by exact Kg.out _ (H3.out.keeps (Qda _ _)):Calls _ _ _ _ _).mono ?_
 rintro e w4 ⟨rfl,Hr⟩
 have gN:=hid ((Qda w3 _).trans Hr (fun _ _ e=>e))
 clear Hr
 go_wp2_with fail
 refine(by exact mM.out _ (H3.out.keeps gN.out):Calls _ _ _ _ _).mono ?_
 rintro e w5 ⟨rfl,Hs⟩
 have GS:=hid (gN.out.trans Hs (fun _ _ e=>e))
 clear Hs
 go_wp2_with fail
 refine(by exact HF.out _ (H3.out.keeps GS.out):Calls _ _ _ _ _).mono ?_
 rintro e w6 ⟨rfl,Hi,Hw⟩
 have HB:=hid Hi
 have gC:=hid (((Hy.out.trans GS.out (fun _ _ e=>e)).mono (S:=(· = r)) (fun _ _ e=>e.elim)).trans Hw (fun _ _ e=>e))
 clear Hi Hw
 go_wp2_with fail
 refine(by exact Qoa w6 r file L i 6 HB.out ⟨#[59]⟩:Calls _ _ _ _ _).mono ?_
 rintro e w7 ⟨rfl,rfl⟩
 go_wp2_with fail
 refine bodyPost_ret (results_none rfl _ _ _) rfl ?_
 exact⟨rfl,gC.out.below HH.out.size (fun b hb e=>by cases e;have:=HH.out.low;omega),HB.out⟩
set_option maxRecDepth 100000 in
theorem Qrh(w:World)(r base:Nat)(file:Int)(L:List Tok)(lv ov:Value)(i:Nat)(D:List Qra)(h:QZa w r base file L lv ov i D)(dp:Nat)(K9:(dp:Int)≤1000000)(h7:(tkN L i).kind≠7)(h5:(tkN L i).kind≠5)(h1:(tkN L i).kind≠1) :
 Calls Tryz.prog 109 #[.pointer (some ⟨r,0,none⟩),.int .i64 (dp:Int)] w (QVb r base file L lv D (.error (i,6)) w):=by
 obtain⟨c0,c1,c2,c3,_,_,_,f1,f2,f3,_,_,_,cl⟩:=h.cells
 obtain⟨n1,n2⟩:=h.num
 have g7:((tkN L i).kind == 7)=false:=by rw[beq_eq_false_iff_ne];exact h7
 have g5:((tkN L i).kind == 5)=false:=by rw[beq_eq_false_iff_ne];exact h5
 have g1:((tkN L i).kind != 1)=true:=by rw[bne_iff_ne];exact h1
 have HF:=hid (fun wx hx=>QCb wx r base file L lv ov i D hx 6 (by decide))
 have HH:=hid h
 obtain⟨g,cap,rfl,hg,d0,d1,d2,d3,d4,d5⟩:=h.toks.at h.lt
 have gl:g<w.heap.size:=World.block_lt_of_cell? w _ d0
 generalize (tkN L i).kind=kd at *
 generalize (tkN L i).line=tl at *
 generalize (tkN L i).col=tc at *
 have hN:=Qca.new w #[.int .i64 0,.int .i64 0,.int .i64 0] 27
 have Hk:Below w.heap.size w (w.alloc (.cells #[.int .i64 0,.int .i64 0,.int .i64 0] 27)):=(Below.refl _ _).alloc (Nat.le_refl _) _
 have c0':=(Hk.cell cl).trans c0
 have c1':=(Hk.cell cl).trans c1
 have d3':=(Hk.cell gl).trans d3
 have d4':=(Hk.cell gl).trans d4
 have d5':=(Hk.cell gl).trans d5
 obtain⟨m0,m1,m2,mf0,mf1,mf2,ml⟩:=three hN
 have hM:=(Qca.new w #[.int .i64 file,.int .i64 tl,.int .i64 tc] 27).drew
 have Hc:Qaa (fun _=>False) w (w.alloc (.cells #[.int .i64 file,.int .i64 tl,.int .i64 tc] 27)).drew:=((Qaa.refl _ w).alloc _).drew
 have h3:=h.keeps Hc
 obtain⟨x0,x1,x2,_,_,_,xl⟩:=three hM
 obtain⟨y0,y1,_,y3,_,_,_,z1,_,z3,_,_,_,yl⟩:=h3.cells
 have e0:=(Hc.cell (p:=⟨g,i*6,none⟩) gl (fun e=>e)).trans d0
 have gl3:=Nat.lt_of_lt_of_le gl Hc.size
 have H3:=hid h3
 have Hy:=hid Hc
 have HM:=hid hM
 clear h h7 h5 h1 hN Hk hM Hc h3
 go_enter Tryz.func109,Tryz.ntmps109
 go_wp2_with fail
 go_region
 generalize (w.alloc (.cells #[.int .i64 file,.int .i64 tl,.int .i64 tc] 27)).drew=w3 at *
 go_wp2_with fail
 go_quiet (fail)
 go_wp2_with fail
 go_quiet (fail)
 go_wp2_with fail
 go_quiet (fail)
 go_wp2_with fail
 refine(by exact HF.out _ (H3.out.keeps (Qda _ _)):Calls _ _ _ _ _).mono ?_
 rintro e w6 ⟨rfl,Hi,Hw⟩
 have HB:=hid Hi
 have gC:=hid (((Hy.out.trans (Qda w3 _) (fun _ _ e=>e)).mono (S:=(· = r)) (fun _ _ e=>e.elim)).trans Hw (fun _ _ e=>e))
 clear Hi Hw
 go_wp2_with fail
 refine bodyPost_ret (results_none rfl _ _ _) rfl ?_
 exact⟨rfl,gC.out.below HH.out.size (fun b hb e=>by cases e;have:=HH.out.low;omega),HB.out⟩
end Go.Proofs.YtofhcgbihonckaaGreat
