/- bringupref04: the reader in memory; fail, is, take, add behind an error. | bringupref04: word, add. | bringupref04: add (printed by gr4c.py). | bringupref04: cell. | bringupref04: part, where it is a text or a path. | bringupref04: part, where it is none. | bringupref04: part, a list of cells. | bringupref04: part, bytes. | bringupref04: part; add behind an error. | bringupref04: body behind an error. | bringupref04: add, as the reader goes on. | bringupref04: member, where it begins with a word. | bringupref04: member, a property's deletion . | bringupref04: member, a node's deletion (printed by gr4n.py). | bringupref04: member, where it begins with a word. | bringupref04: member, where no member begins. | bringupref04: body. | bringupref04: the parts of a property, as they grow. | bringupref04: member, a node without a label (printed by gr4s.py). -/
import Derived.Test.YtofhcgbihonckaaGreatZ15
import Derived.Test.YtofhcgbihonckaaGreatZ25
import Derived.Test.YtofhcgbihonckaaGreatZ8
import Derived.Test.YtofhcgbihonckaaGreatZ11
import Derived.Test.YtofhcgbihonckaaGreatZ9
import Derived.Deep.RegionWith
import Derived.Deep.LoopGhost
import Derived.Deep.AppendLies
import Derived.Deep.RegionLaw
import Derived.Laws.AppendOwn
import Derived.Laws.OwnMore
set_option linter.all false
set_option maxHeartbeats 8000000
namespace Go.Proofs.YtofhcgbihonckaaGreat
open Go.Lib (hid)
open Go.RowKit
structure Q4a(w:World)(r base:Nat)(file:Int)(L:List Tok)(lv ov:Value)(i:Nat)(D:List Qwa):Prop where
 holds:Qca w r #[lv,.int .i64 i,ov,.int .i64 0,.int .i64 0,.int .i64 0,.int .i64 0] 78
 toks:Qjf base w lv file L
 defs:Q7a w base file ov D
 low:base≤r
 size:base≤w.heap.size
 lt:i<L.length
 ok:LOk L
 cnt:D.length≤2*i+1
def QIb(w:World)(r:Nat)(file:Int)(L:List Tok)(k:Nat)(c:Int):Prop:=
 c≠0∧∃lv x ov,Qca w r #[lv,x,ov,.int .i64 c,.int .i64 file,.int .i64 (tkN L k).line,.int .i64 (tkN L k).col] 78
section
variable{w w':World}{r base:Nat}{file:Int}{L:List Tok}{lv ov:Value}{i k:Nat}{D:List Qwa}{c:Int}
theorem Q4a.keeps(h:Q4a w r base file L lv ov i D)(k:Qaa (fun _=>False) w w'):Q4a w' r base file L lv ov i D:=
 ⟨h.holds.keeps k (fun e=>e),h.toks.keeps k (fun _ e=>e.elim),h.defs.keeps k (QLa.nil _),h.low,Nat.le_trans h.size k.size,h.lt,h.ok,h.cnt⟩
theorem Q4a.turn(h:Q4a w r base file L lv ov i D)(k:Qaa (· = r) w w'){j:Nat}(hH:Qca w' r #[lv,.int .i64 j,ov,.int .i64 0,.int .i64 0,.int .i64 0,.int .i64 0] 78)(hj:j<L.length)(GV:i≤j):Q4a w' r base file L lv ov j D:=
 ⟨hH,h.toks.keeps k (fun b e=>by cases e;exact h.low),h.defs.keeps k (QLa.one h.holds (by decide) (by decide) (by decide)),h.low,Nat.le_trans h.size k.size,hj,h.ok,by have:=h.cnt;omega⟩
theorem Q4a.step(h:Q4a w r base file L lv ov i D)(hj:i+1<L.length):Q4a (w.setCell ⟨r,1,none⟩ (.int .i64 ((i:Int)+1))) r base file L lv ov (i+1) D∧Qaa (· = r) w (w.setCell ⟨r,1,none⟩ (.int .i64 ((i:Int)+1))):=by
 have k:=(Qaa.refl (· = r) w).setCell (p:=⟨r,1,none⟩) (.inr rfl) (.int .i64 ((i:Int)+1))
 exact⟨h.turn k (by rw[show(((i+1:Nat)):Int)=(i:Int)+1 from by omega];exact h.holds.set 1 _) hj (by omega),k⟩
theorem Q4a.cells(h:Q4a w r base file L lv ov i D):w.cell? ⟨r,0,none⟩=some lv∧w.cell? ⟨r,1,none⟩=some (.int .i64 i)∧w.cell? ⟨r,2,none⟩=some ov∧w.cell? ⟨r,3,none⟩=some (.int .i64 0)∧w.cell? ⟨r,4,none⟩=some (.int .i64 0)∧w.cell? ⟨r,5,none⟩=some (.int .i64 0)∧w.cell? ⟨r,6,none⟩=some (.int .i64 0)∧w.frozen? ⟨r,1,none⟩=false∧w.frozen? ⟨r,2,none⟩=false∧w.frozen? ⟨r,3,none⟩=false∧w.frozen? ⟨r,4,none⟩=false∧w.frozen? ⟨r,5,none⟩=false∧w.frozen? ⟨r,6,none⟩=false∧r<w.heap.size:=
 ⟨h.holds.cell 0,h.holds.cell 1,h.holds.cell 2,h.holds.cell 3,h.holds.cell 4,h.holds.cell 5,h.holds.cell 6,h.holds.free 1,h.holds.free 2,h.holds.free 3,h.holds.free 4,h.holds.free 5,h.holds.free 6,h.holds.lt⟩
theorem Q4a.num(h:Q4a w r base file L lv ov i D):(i:Int)<(L.length:Int)∧(i:Int)<10000:=by
 have:=h.lt;have:=h.ok.len;omega
theorem QIb.keeps{S:Nat→Prop}(h:QIb w r file L k c)(K:Qaa S w w')(hr:¬S r):QIb w' r file L k c:=by
 obtain⟨h0,lv,x,ov,h⟩:=h;exact⟨h0,lv,x,ov,h.keeps K hr⟩
end
set_option maxRecDepth 100000 in
theorem QNb(w:World)(r base:Nat)(file:Int)(L:List Tok)(lv ov:Value)(i:Nat)(D:List Qwa)(h:Q4a w r base file L lv ov i D)(c:Int)(hc:c≠0) :
 Calls Tryz.prog 105 #[.pointer (some ⟨r,0,none⟩),.int .i64 c] w fun e w'=>e = .returned (.tuple #[])∧QIb w' r file L i c∧Qaa (· = r) w w':=by
 have hH:=h.holds
 obtain⟨c0,c1,c2,c3,c4,c5,c6,f1,f2,f3,f4,f5,f6,cl⟩:=h.cells
 obtain⟨n1,n2⟩:=h.num
 obtain⟨g,cap,rfl,hg,d0,d1,d2,d3,d4,d5⟩:=h.toks.at h.lt
 have cx:g≠r:=by have:=h.low;omega
 have gl:=World.block_lt_of_cell? w _ d0
 have HC:=hid hc
 unfold QIb
 clear h hc d0 d1 d2
 generalize tkN L i=t at *
 obtain⟨t0,t1,t2,t3,t4⟩:=t
 simp only at d3 d4 d5 ⊢
 go_enter Tryz.func105,Tryz.ntmps105
 go_wp2_with fail
 go_region
 go_wp2_with fail
 go_end0
 have Hg:=((((hH.set 3 (.int .i64 c)).set 4 (.int .i64 file)).set 5 (.int .i64 t3)).set 6 (.int .i64 t4)).drew
 have lq:=(((((Qaa.refl (· = r) w).setCell (p:=⟨r,3,none⟩) (.inr rfl) (.int .i64 c)).setCell (p:=⟨r,4,none⟩) (.inr rfl) (.int .i64 file)).setCell (p:=⟨r,5,none⟩) (.inr rfl) (.int .i64 t3)).setCell (p:=⟨r,6,none⟩) (.inr rfl) (.int .i64 t4)).drew
 exact⟨rfl,⟨HC.out,_,_,_,Hg⟩,lq⟩
theorem QZb(w:World)(r base:Nat)(file:Int)(L:List Tok)(lv ov:Value)(i:Nat)(D:List Qwa)(h:Q4a w r base file L lv ov i D)(kind:Int)(s:List UInt8)(hs:s≠[]) :
 Calls Tryz.prog 63 #[.pointer (some ⟨r,0,none⟩),.int .i64 kind,.string ⟨s.toArray⟩] w fun e w'=>e = .returned (.bool (isK L i kind s))∧Qaa (fun _=>False) w w':=by
 obtain⟨c0,c1,_,_,_,_,_,_,_,_,_,_,_,cl⟩:=h.cells
 obtain⟨n1,n2⟩:=h.num
 obtain⟨g,cap,rfl,hg,d0,d1,_⟩:=h.toks.at h.lt
 have cy:s.isEmpty=false:=by simpa using hs
 have hK:=hid (show isK L i kind s=(decide ((tkN L i).kind=kind) && decide ((tkN L i).text=s))by unfold isK;rw[cy,Bool.false_or])
 clear h hs cy
 generalize tkN L i=t at *
 obtain⟨t0,t1,t2,t3,t4⟩:=t
 simp only at d0 d1 hK
 by_cases hk:t0=kind
 ·subst hk
  by_cases ht:t1=s
  ·subst ht
   go_enter Tryz.func63,Tryz.ntmps63
   go_wp2_with fail
   go_quiet (fail)
   go_wp2_with fail
   go_ret
   exact⟨Qla (by rw[hK.out];simp),Qda _ _⟩
  ·have tI:(t1 == s)=false:=by rw[beq_eq_false_iff_ne];exact ht
   have HT:=hid ht
   clear ht
   go_enter Tryz.func63,Tryz.ntmps63
   go_wp2_with fail
   go_quiet (fail)
   go_wp2_with fail
   go_ret
   exact⟨Qla (by rw[hK.out];simp[HT.out]),Qda _ _⟩
 ·have kR:(t0 == kind)=false:=by rw[beq_eq_false_iff_ne];exact hk
  have HK:=hid hk
  clear hk
  go_enter Tryz.func63,Tryz.ntmps63
  go_wp2_with fail
  go_quiet (fail)
  go_wp2_with fail
  go_ret
  exact⟨Qla (by rw[hK.out];simp[HK.out]),Qda _ _⟩
def QUl(r base:Nat)(file:Int)(L:List Tok)(lv ov:Value)(i:Nat)(D:List Qwa)(s:List UInt8)(w:World)(e:Ending)(w':World):Prop:=
 e = .returned (.tuple #[])∧Qaa (· = r) w w'∧(isK L i 4 s=true→Q4a w' r base file L lv ov (i+1) D)∧(isK L i 4 s=false→QIb w' r file L i 6)
set_option maxRecDepth 100000 in
theorem Qtb(w:World)(r base:Nat)(file:Int)(L:List Tok)(lv ov:Value)(i:Nat)(D:List Qwa)(h:Q4a w r base file L lv ov i D)(s:List UInt8)(hs:s≠[]) :
 Calls Tryz.prog 67 #[.pointer (some ⟨r,0,none⟩),.string ⟨s.toArray⟩] w (QUl r base file L lv ov i D s w):=by
 obtain⟨c0,c1,c2,c3,_,_,_,f1,f2,f3,_,_,_,cl⟩:=h.cells
 obtain⟨n1,n2⟩:=h.num
 have Mu:=QZb w r base file L lv ov i D h 4 s hs
 have gF:isK L i 4 s=true→i+1<L.length:=fun hk=>h.ok.next h.lt (by unfold isK at hk;simp only[Bool.and_eq_true,decide_eq_true_eq]at hk;rw[hk.1];decide)
 have HH:=hid h
 clear h hs
 cases hy:isK L i 4 s with
 | true=>
  rw[hy]at Mu
  have mp:=hid Mu
  have gU:=hid (gF hy)
  have HY:=hid hy
  clear Mu gF hy
  go_enter Tryz.func67,Tryz.ntmps67
  go_wp2_with fail
  refine(by exact mp.out:Calls _ _ _ _ _).mono ?_
  rintro e w1 ⟨rfl,Ht⟩
  have h1:=HH.out.keeps Ht
  obtain⟨_,d1,_,_,_,_,_,g1,_,_,_,_,_,dl⟩:=h1.cells
  have H1:=hid h1
  clear h1
  go_wp2_with fail
  refine bodyPost_ret (results_none rfl _ _ _) rfl ?_
  obtain⟨a,b⟩:=H1.out.step gU.out
  exact⟨rfl,(Ht.mono (S:=(· = r)) (fun _ _ e=>e.elim)).trans b (fun _ _ e=>e),fun _=>a,fun e=>by rw[HY.out]at e;cases e⟩
 | false=>
  rw[hy]at Mu
  have mp:=hid Mu
  have HY:=hid hy
  clear Mu gF hy
  go_enter Tryz.func67,Tryz.ntmps67
  go_wp2_with fail
  refine(by exact mp.out:Calls _ _ _ _ _).mono ?_
  rintro e w1 ⟨rfl,Ht⟩
  have hf:=hid (QNb w1 r base file L lv ov i D (HH.out.keeps Ht) 6 (by decide))
  go_wp2_with fail
  refine(by exact hf.out:Calls _ _ _ _ _).mono ?_
  rintro e w2 ⟨rfl,hb,Hp⟩
  go_wp2_with fail
  refine bodyPost_ret (results_none rfl _ _ _) rfl ?_
  exact⟨rfl,(Ht.mono (S:=(· = r)) (fun _ _ e=>e.elim)).trans Hp (fun _ _ e=>e),fun e=>(by rw[HY.out]at e;cases e),fun _=>hb⟩
theorem Qqa(w:World)(r:Nat)(file:Int)(L:List Tok)(k:Nat)(c:Int)(h:QIb w r file L k c)(s:ByteArray) :
 Calls Tryz.prog 67 #[.pointer (some ⟨r,0,none⟩),.string s] w fun e w'=>e = .returned (.tuple #[])∧w=w':=by
 obtain⟨h0,lv,x,ov,hH⟩:=h
 have c3:=hH.cell 3
 have cl:=hH.lt
 have hb:(c != 0)=true:=by rw[bne_iff_ne];exact h0
 clear hH h0
 go_enter Tryz.func67,Tryz.ntmps67
 go_wp2_with fail
 refine bodyPost_ret (results_none rfl _ _ _) rfl ?_
 exact⟨rfl,rfl⟩
def QKa:Nat→List UInt8→Bool
 | 1=>Q1a
 | 2=>Q5b
 | 3=>Qra
 | _=>fun _=>true
def Qbb(r base:Nat)(file:Int)(L:List Tok)(lv ov:Value)(D:List Qwa)(i:Nat)(R:Rs Nat)(w:World)(e:Ending)(w':World):Prop:=
 Qaa (· = r) w w'∧match R with
  | .ok j=>e = .returned (.string (txN L i))∧Q4a w' r base file L lv ov j D
  | .error (k,c)=>e = .returned (.string ⟨#[]⟩)∧QIb w' r file L k c
set_option maxRecDepth 100000 in
theorem Q5h(w:World)(r base:Nat)(file:Int)(L:List Tok)(lv ov:Value)(i:Nat)(D:List Qwa)(h:Q4a w r base file L lv ov i D)(kind:Int)(gE:kind≠8) :
 Calls Tryz.prog 65 #[.pointer (some ⟨r,0,none⟩),.int .i64 kind,.int .i64 1] w (Qbb r base file L lv ov D i (Qja L kind (QKa 1) i) w):=by
 obtain⟨c0,c1,c2,c3,_,_,_,f1,f2,f3,_,_,_,cl⟩:=h.cells
 obtain⟨n1,n2⟩:=h.num
 have HF:=hid (fun wx hx=>QNb wx r base file L lv ov i D hx)
 have HH:=hid h
 obtain⟨g,cap,rfl,hg,d0,d1,d2,d3,d4,d5⟩:=h.toks.at h.lt
 have gF:(tkN L i).kind=kind→i+1<L.length:=fun hk=>h.ok.next h.lt (by rw[hk];exact gE)
 have H7:=h.ok.at i
 have ba:=hid (show txN L i=⟨(tkN L i).text.toArray⟩from rfl)
 have HT:=hid (show Qja L kind (QKa 1) i=if (tkN L i).kind=kind then(if QKa 1 (tkN L i).text=true then .ok (i+1)else .error (i,1))else .error (i,6)from rfl)
 unfold Qbb
 generalize Qja L kind (QKa 1) i=T at *
 generalize txN L i=X at *
 generalize tkN L i=t at *
 obtain⟨t0,t1,t2,t3,t4⟩:=t
 simp only at d0 d1 d2 d3 d4 d5 gF HT ba H7
 clear h gE
 have gl:g<w.heap.size:=World.block_lt_of_cell? w _ d0
 have hN:=Qca.new w #[.int .i64 0,.string ⟨#[]⟩,.int .i64 0,.int .i64 0,.int .i64 0,.int .i64 0] 65
 have Hl:Below w.heap.size w (w.alloc (.cells #[.int .i64 0,.string ⟨#[]⟩,.int .i64 0,.int .i64 0,.int .i64 0,.int .i64 0] 65)):=(Below.refl _ _).alloc (Nat.le_refl _) _
 have c0':=(Hl.cell cl).trans c0
 have c1':=(Hl.cell cl).trans c1
 have d0':=(Hl.cell gl).trans d0
 have d1':=(Hl.cell gl).trans d1
 have d2':=(Hl.cell gl).trans d2
 have d3':=(Hl.cell gl).trans d3
 have d4':=(Hl.cell gl).trans d4
 have d5':=(Hl.cell gl).trans d5
 have Hh:=hN.lt
 obtain⟨g0,g1,g2,g3,g4,g5⟩:=QWb hN
 obtain⟨m0,m1,m2,m3,m4,m5⟩:=Qga hN
 have lX:=hid hN
 have qW:=hid Hl
 have hM:=(Qca.new w #[.int .i64 t0,.string ⟨t1.toArray⟩,.int .i64 t2,.int .i64 file,.int .i64 t3,.int .i64 t4] 65).drew
 have Hd:Qaa (fun _=>False) w (w.alloc (.cells #[.int .i64 t0,.string ⟨t1.toArray⟩,.int .i64 t2,.int .i64 file,.int .i64 t3,.int .i64 t4] 65)).drew:=((Qaa.refl _ w).alloc _).drew
 have h3:=HH.out.keeps Hd
 obtain⟨x0,x1,x2,x3,x4,x5⟩:=Qga hM
 have xl:=hM.lt
 obtain⟨_,y1,_,y3,_,_,_,z1,_,z3,_,_,_,yl⟩:=h3.cells
 have H3:=hid h3
 have gh:=hid (Hd.mono (S:=(· = r)) (fun _ _ e=>e.elim))
 clear hN Hl hM Hd h3
 by_cases hk:t0=kind
 ·subst hk
  have HN:=hid (gF rfl)
  clear gF
  have hc:=fun wx=>Qbi ⟨t1.toArray⟩ wx (by show t1.toArray.size≤_;rw[List.size_toArray];unfold maxLen;omega)
  rw[show(Q1a (⟨t1.toArray⟩:ByteArray).data.toList)=Q1a t1 from by rw[List.toList_toArray]]at hc
  cases hb:Q1a t1 with
  | true=>
   rw[hb]at hc
   have HC:=hid hc
   have K7:=hid hb
   clear hc hb
   have hT:T = .ok (i+1):=by rw[HT.out,if_pos rfl,if_pos (show QKa 1 t1=true from K7.out)]
   subst hT
   go_enter Tryz.func65,Tryz.ntmps65
   go_wp2_with fail
   go_region
   generalize (w.alloc (.cells #[.int .i64 t0,.string ⟨t1.toArray⟩,.int .i64 t2,.int .i64 file,.int .i64 t3,.int .i64 t4] 65)).drew=w3 at *
   go_wp2_with fail
   refine(HC.out _).mono ?_
   rintro e w' ⟨rfl,rfl⟩
   go_wp2_with fail
   go_ret
   obtain⟨a,b⟩:=H3.out.step HN.out
   exact⟨gh.out.trans b (fun _ _ e=>e),by rw[ba.out];rfl,a⟩
  | false=>
   rw[hb]at hc
   have HC:=hid hc
   have hT:T = .error (i,1):=by rw[HT.out,if_pos rfl,if_neg (show ¬QKa 1 t1=true by show ¬Q1a t1=true;rw[hb];exact Bool.false_ne_true)]
   subst hT
   clear hc hb
   have ju:=hid (HF.out _ H3.out 1 (by decide))
   go_enter Tryz.func65,Tryz.ntmps65
   go_wp2_with fail
   go_region
   generalize (w.alloc (.cells #[.int .i64 t0,.string ⟨t1.toArray⟩,.int .i64 t2,.int .i64 file,.int .i64 t3,.int .i64 t4] 65)).drew=w3 at *
   go_wp2_with fail
   refine(HC.out _).mono ?_
   rintro e w' ⟨rfl,rfl⟩
   go_wp2_with fail
   refine(by exact ju.out:Calls _ _ _ _ _).mono ?_
   rintro e w2 ⟨rfl,Ho,Hp⟩
   go_wp2_with fail
   go_ret
   exact⟨gh.out.trans Hp (fun _ _ e=>e),rfl,Ho⟩
 ·have hT:T = .error (i,6):=by rw[HT.out,if_neg hk]
  subst hT
  have kR:(t0 != kind)=true:=by rw[bne_iff_ne];exact hk
  have ju:=hid (HF.out _ H3.out 6 (by decide))
  clear hk gF
  go_enter Tryz.func65,Tryz.ntmps65
  go_wp2_with fail
  go_region
  generalize (w.alloc (.cells #[.int .i64 t0,.string ⟨t1.toArray⟩,.int .i64 t2,.int .i64 file,.int .i64 t3,.int .i64 t4] 65)).drew=w3 at *
  go_wp2_with fail
  refine(by exact ju.out:Calls _ _ _ _ _).mono ?_
  rintro e w2 ⟨rfl,Ho,Hp⟩
  go_wp2_with fail
  go_ret
  exact⟨gh.out.trans Hp (fun _ _ e=>e),rfl,Ho⟩
set_option maxRecDepth 100000 in
theorem Q6h(w:World)(r base:Nat)(file:Int)(L:List Tok)(lv ov:Value)(i:Nat)(D:List Qwa)(h:Q4a w r base file L lv ov i D)(kind:Int)(gE:kind≠8) :
 Calls Tryz.prog 65 #[.pointer (some ⟨r,0,none⟩),.int .i64 kind,.int .i64 2] w (Qbb r base file L lv ov D i (Qja L kind (QKa 2) i) w):=by
 obtain⟨c0,c1,c2,c3,_,_,_,f1,f2,f3,_,_,_,cl⟩:=h.cells
 obtain⟨n1,n2⟩:=h.num
 have HF:=hid (fun wx hx=>QNb wx r base file L lv ov i D hx)
 have HH:=hid h
 obtain⟨g,cap,rfl,hg,d0,d1,d2,d3,d4,d5⟩:=h.toks.at h.lt
 have gF:(tkN L i).kind=kind→i+1<L.length:=fun hk=>h.ok.next h.lt (by rw[hk];exact gE)
 have H7:=h.ok.at i
 have ba:=hid (show txN L i=⟨(tkN L i).text.toArray⟩from rfl)
 have HT:=hid (show Qja L kind (QKa 2) i=if (tkN L i).kind=kind then(if QKa 2 (tkN L i).text=true then .ok (i+1)else .error (i,1))else .error (i,6)from rfl)
 unfold Qbb
 generalize Qja L kind (QKa 2) i=T at *
 generalize txN L i=X at *
 generalize tkN L i=t at *
 obtain⟨t0,t1,t2,t3,t4⟩:=t
 simp only at d0 d1 d2 d3 d4 d5 gF HT ba H7
 clear h gE
 have gl:g<w.heap.size:=World.block_lt_of_cell? w _ d0
 have hN:=Qca.new w #[.int .i64 0,.string ⟨#[]⟩,.int .i64 0,.int .i64 0,.int .i64 0,.int .i64 0] 65
 have Hl:Below w.heap.size w (w.alloc (.cells #[.int .i64 0,.string ⟨#[]⟩,.int .i64 0,.int .i64 0,.int .i64 0,.int .i64 0] 65)):=(Below.refl _ _).alloc (Nat.le_refl _) _
 have c0':=(Hl.cell cl).trans c0
 have c1':=(Hl.cell cl).trans c1
 have d0':=(Hl.cell gl).trans d0
 have d1':=(Hl.cell gl).trans d1
 have d2':=(Hl.cell gl).trans d2
 have d3':=(Hl.cell gl).trans d3
 have d4':=(Hl.cell gl).trans d4
 have d5':=(Hl.cell gl).trans d5
 have Hh:=hN.lt
 obtain⟨g0,g1,g2,g3,g4,g5⟩:=QWb hN
 obtain⟨m0,m1,m2,m3,m4,m5⟩:=Qga hN
 have lX:=hid hN
 have qW:=hid Hl
 have hM:=(Qca.new w #[.int .i64 t0,.string ⟨t1.toArray⟩,.int .i64 t2,.int .i64 file,.int .i64 t3,.int .i64 t4] 65).drew
 have Hd:Qaa (fun _=>False) w (w.alloc (.cells #[.int .i64 t0,.string ⟨t1.toArray⟩,.int .i64 t2,.int .i64 file,.int .i64 t3,.int .i64 t4] 65)).drew:=((Qaa.refl _ w).alloc _).drew
 have h3:=HH.out.keeps Hd
 obtain⟨x0,x1,x2,x3,x4,x5⟩:=Qga hM
 have xl:=hM.lt
 obtain⟨_,y1,_,y3,_,_,_,z1,_,z3,_,_,_,yl⟩:=h3.cells
 have H3:=hid h3
 have gh:=hid (Hd.mono (S:=(· = r)) (fun _ _ e=>e.elim))
 clear hN Hl hM Hd h3
 by_cases hk:t0=kind
 ·subst hk
  have HN:=hid (gF rfl)
  clear gF
  have hc:=fun wx=>Qai ⟨t1.toArray⟩ wx (by show t1.toArray.size≤_;rw[List.size_toArray];omega)
  rw[show(Q6e ⟨t1.toArray⟩)=Q5b t1 from by show Q5b (⟨t1.toArray⟩:ByteArray).data.toList=_;rw[List.toList_toArray]]at hc
  cases hb:Q5b t1 with
  | true=>
   rw[hb]at hc
   have HC:=hid hc
   have K7:=hid hb
   clear hc hb
   have hT:T = .ok (i+1):=by rw[HT.out,if_pos rfl,if_pos (show QKa 2 t1=true from K7.out)]
   subst hT
   go_enter Tryz.func65,Tryz.ntmps65
   go_wp2_with fail
   go_region
   generalize (w.alloc (.cells #[.int .i64 t0,.string ⟨t1.toArray⟩,.int .i64 t2,.int .i64 file,.int .i64 t3,.int .i64 t4] 65)).drew=w3 at *
   go_wp2_with fail
   refine(HC.out _).mono ?_
   rintro e w' ⟨rfl,rfl⟩
   go_wp2_with fail
   go_ret
   obtain⟨a,b⟩:=H3.out.step HN.out
   exact⟨gh.out.trans b (fun _ _ e=>e),by rw[ba.out];rfl,a⟩
  | false=>
   rw[hb]at hc
   have HC:=hid hc
   have hT:T = .error (i,1):=by rw[HT.out,if_pos rfl,if_neg (show ¬QKa 2 t1=true by show ¬Q5b t1=true;rw[hb];exact Bool.false_ne_true)]
   subst hT
   clear hc hb
   have ju:=hid (HF.out _ H3.out 1 (by decide))
   go_enter Tryz.func65,Tryz.ntmps65
   go_wp2_with fail
   go_region
   generalize (w.alloc (.cells #[.int .i64 t0,.string ⟨t1.toArray⟩,.int .i64 t2,.int .i64 file,.int .i64 t3,.int .i64 t4] 65)).drew=w3 at *
   go_wp2_with fail
   refine(HC.out _).mono ?_
   rintro e w' ⟨rfl,rfl⟩
   go_wp2_with fail
   refine(by exact ju.out:Calls _ _ _ _ _).mono ?_
   rintro e w2 ⟨rfl,Ho,Hp⟩
   go_wp2_with fail
   go_ret
   exact⟨gh.out.trans Hp (fun _ _ e=>e),rfl,Ho⟩
 ·have hT:T = .error (i,6):=by rw[HT.out,if_neg hk]
  subst hT
  have kR:(t0 != kind)=true:=by rw[bne_iff_ne];exact hk
  have ju:=hid (HF.out _ H3.out 6 (by decide))
  clear hk gF
  go_enter Tryz.func65,Tryz.ntmps65
  go_wp2_with fail
  go_region
  generalize (w.alloc (.cells #[.int .i64 t0,.string ⟨t1.toArray⟩,.int .i64 t2,.int .i64 file,.int .i64 t3,.int .i64 t4] 65)).drew=w3 at *
  go_wp2_with fail
  refine(by exact ju.out:Calls _ _ _ _ _).mono ?_
  rintro e w2 ⟨rfl,Ho,Hp⟩
  go_wp2_with fail
  go_ret
  exact⟨gh.out.trans Hp (fun _ _ e=>e),rfl,Ho⟩
set_option maxRecDepth 100000 in
theorem Qec(w:World)(r base:Nat)(file:Int)(L:List Tok)(lv ov:Value)(i:Nat)(D:List Qwa)(h:Q4a w r base file L lv ov i D)(kind:Int)(gE:kind≠8) :
 Calls Tryz.prog 65 #[.pointer (some ⟨r,0,none⟩),.int .i64 kind,.int .i64 3] w (Qbb r base file L lv ov D i (Qja L kind (QKa 3) i) w):=by
 obtain⟨c0,c1,c2,c3,_,_,_,f1,f2,f3,_,_,_,cl⟩:=h.cells
 obtain⟨n1,n2⟩:=h.num
 have HF:=hid (fun wx hx=>QNb wx r base file L lv ov i D hx)
 have HH:=hid h
 obtain⟨g,cap,rfl,hg,d0,d1,d2,d3,d4,d5⟩:=h.toks.at h.lt
 have gF:(tkN L i).kind=kind→i+1<L.length:=fun hk=>h.ok.next h.lt (by rw[hk];exact gE)
 have H7:=h.ok.at i
 have ba:=hid (show txN L i=⟨(tkN L i).text.toArray⟩from rfl)
 have HT:=hid (show Qja L kind (QKa 3) i=if (tkN L i).kind=kind then(if QKa 3 (tkN L i).text=true then .ok (i+1)else .error (i,1))else .error (i,6)from rfl)
 unfold Qbb
 generalize Qja L kind (QKa 3) i=T at *
 generalize txN L i=X at *
 generalize tkN L i=t at *
 obtain⟨t0,t1,t2,t3,t4⟩:=t
 simp only at d0 d1 d2 d3 d4 d5 gF HT ba H7
 clear h gE
 have gl:g<w.heap.size:=World.block_lt_of_cell? w _ d0
 have hN:=Qca.new w #[.int .i64 0,.string ⟨#[]⟩,.int .i64 0,.int .i64 0,.int .i64 0,.int .i64 0] 65
 have Hl:Below w.heap.size w (w.alloc (.cells #[.int .i64 0,.string ⟨#[]⟩,.int .i64 0,.int .i64 0,.int .i64 0,.int .i64 0] 65)):=(Below.refl _ _).alloc (Nat.le_refl _) _
 have c0':=(Hl.cell cl).trans c0
 have c1':=(Hl.cell cl).trans c1
 have d0':=(Hl.cell gl).trans d0
 have d1':=(Hl.cell gl).trans d1
 have d2':=(Hl.cell gl).trans d2
 have d3':=(Hl.cell gl).trans d3
 have d4':=(Hl.cell gl).trans d4
 have d5':=(Hl.cell gl).trans d5
 have Hh:=hN.lt
 obtain⟨g0,g1,g2,g3,g4,g5⟩:=QWb hN
 obtain⟨m0,m1,m2,m3,m4,m5⟩:=Qga hN
 have lX:=hid hN
 have qW:=hid Hl
 have hM:=(Qca.new w #[.int .i64 t0,.string ⟨t1.toArray⟩,.int .i64 t2,.int .i64 file,.int .i64 t3,.int .i64 t4] 65).drew
 have Hd:Qaa (fun _=>False) w (w.alloc (.cells #[.int .i64 t0,.string ⟨t1.toArray⟩,.int .i64 t2,.int .i64 file,.int .i64 t3,.int .i64 t4] 65)).drew:=((Qaa.refl _ w).alloc _).drew
 have h3:=HH.out.keeps Hd
 obtain⟨x0,x1,x2,x3,x4,x5⟩:=Qga hM
 have xl:=hM.lt
 obtain⟨_,y1,_,y3,_,_,_,z1,_,z3,_,_,_,yl⟩:=h3.cells
 have H3:=hid h3
 have gh:=hid (Hd.mono (S:=(· = r)) (fun _ _ e=>e.elim))
 clear hN Hl hM Hd h3
 by_cases hk:t0=kind
 ·subst hk
  have HN:=hid (gF rfl)
  clear gF
  have hc:=fun wx=>Q1m ⟨t1.toArray⟩ wx (by show t1.toArray.size≤_;rw[List.size_toArray];unfold maxLen;omega)
  rw[show(Qra (⟨t1.toArray⟩:ByteArray).data.toList)=Qra t1 from by rw[List.toList_toArray]]at hc
  cases hb:Qra t1 with
  | true=>
   rw[hb]at hc
   have HC:=hid hc
   have K7:=hid hb
   clear hc hb
   have hT:T = .ok (i+1):=by rw[HT.out,if_pos rfl,if_pos (show QKa 3 t1=true from K7.out)]
   subst hT
   go_enter Tryz.func65,Tryz.ntmps65
   go_wp2_with fail
   go_region
   generalize (w.alloc (.cells #[.int .i64 t0,.string ⟨t1.toArray⟩,.int .i64 t2,.int .i64 file,.int .i64 t3,.int .i64 t4] 65)).drew=w3 at *
   go_wp2_with fail
   refine(HC.out _).mono ?_
   rintro e w' ⟨rfl,rfl⟩
   go_wp2_with fail
   go_ret
   obtain⟨a,b⟩:=H3.out.step HN.out
   exact⟨gh.out.trans b (fun _ _ e=>e),by rw[ba.out];rfl,a⟩
  | false=>
   rw[hb]at hc
   have HC:=hid hc
   have hT:T = .error (i,1):=by rw[HT.out,if_pos rfl,if_neg (show ¬QKa 3 t1=true by show ¬Qra t1=true;rw[hb];exact Bool.false_ne_true)]
   subst hT
   clear hc hb
   have ju:=hid (HF.out _ H3.out 1 (by decide))
   go_enter Tryz.func65,Tryz.ntmps65
   go_wp2_with fail
   go_region
   generalize (w.alloc (.cells #[.int .i64 t0,.string ⟨t1.toArray⟩,.int .i64 t2,.int .i64 file,.int .i64 t3,.int .i64 t4] 65)).drew=w3 at *
   go_wp2_with fail
   refine(HC.out _).mono ?_
   rintro e w' ⟨rfl,rfl⟩
   go_wp2_with fail
   refine(by exact ju.out:Calls _ _ _ _ _).mono ?_
   rintro e w2 ⟨rfl,Ho,Hp⟩
   go_wp2_with fail
   go_ret
   exact⟨gh.out.trans Hp (fun _ _ e=>e),rfl,Ho⟩
 ·have hT:T = .error (i,6):=by rw[HT.out,if_neg hk]
  subst hT
  have kR:(t0 != kind)=true:=by rw[bne_iff_ne];exact hk
  have ju:=hid (HF.out _ H3.out 6 (by decide))
  clear hk gF
  go_enter Tryz.func65,Tryz.ntmps65
  go_wp2_with fail
  go_region
  generalize (w.alloc (.cells #[.int .i64 t0,.string ⟨t1.toArray⟩,.int .i64 t2,.int .i64 file,.int .i64 t3,.int .i64 t4] 65)).drew=w3 at *
  go_wp2_with fail
  refine(by exact ju.out:Calls _ _ _ _ _).mono ?_
  rintro e w2 ⟨rfl,Ho,Hp⟩
  go_wp2_with fail
  go_ret
  exact⟨gh.out.trans Hp (fun _ _ e=>e),rfl,Ho⟩
set_option maxRecDepth 100000 in
theorem QSk(w:World)(r base:Nat)(file:Int)(L:List Tok)(lv ov:Value)(i:Nat)(D:List Qwa)(h:Q4a w r base file L lv ov i D)(kind:Int)(gE:kind≠8) :
 Calls Tryz.prog 65 #[.pointer (some ⟨r,0,none⟩),.int .i64 kind,.int .i64 4] w (Qbb r base file L lv ov D i (Qja L kind (QKa 4) i) w):=by
 obtain⟨c0,c1,c2,c3,_,_,_,f1,f2,f3,_,_,_,cl⟩:=h.cells
 obtain⟨n1,n2⟩:=h.num
 have HF:=hid (fun wx hx=>QNb wx r base file L lv ov i D hx)
 have HH:=hid h
 obtain⟨g,cap,rfl,hg,d0,d1,d2,d3,d4,d5⟩:=h.toks.at h.lt
 have gF:(tkN L i).kind=kind→i+1<L.length:=fun hk=>h.ok.next h.lt (by rw[hk];exact gE)
 have H7:=h.ok.at i
 have ba:=hid (show txN L i=⟨(tkN L i).text.toArray⟩from rfl)
 have HT:=hid (show Qja L kind (QKa 4) i=if (tkN L i).kind=kind then(if QKa 4 (tkN L i).text=true then .ok (i+1)else .error (i,1))else .error (i,6)from rfl)
 unfold Qbb
 generalize Qja L kind (QKa 4) i=T at *
 generalize txN L i=X at *
 generalize tkN L i=t at *
 obtain⟨t0,t1,t2,t3,t4⟩:=t
 simp only at d0 d1 d2 d3 d4 d5 gF HT ba H7
 clear h gE
 have gl:g<w.heap.size:=World.block_lt_of_cell? w _ d0
 have hN:=Qca.new w #[.int .i64 0,.string ⟨#[]⟩,.int .i64 0,.int .i64 0,.int .i64 0,.int .i64 0] 65
 have Hl:Below w.heap.size w (w.alloc (.cells #[.int .i64 0,.string ⟨#[]⟩,.int .i64 0,.int .i64 0,.int .i64 0,.int .i64 0] 65)):=(Below.refl _ _).alloc (Nat.le_refl _) _
 have c0':=(Hl.cell cl).trans c0
 have c1':=(Hl.cell cl).trans c1
 have d0':=(Hl.cell gl).trans d0
 have d1':=(Hl.cell gl).trans d1
 have d2':=(Hl.cell gl).trans d2
 have d3':=(Hl.cell gl).trans d3
 have d4':=(Hl.cell gl).trans d4
 have d5':=(Hl.cell gl).trans d5
 have Hh:=hN.lt
 obtain⟨g0,g1,g2,g3,g4,g5⟩:=QWb hN
 obtain⟨m0,m1,m2,m3,m4,m5⟩:=Qga hN
 have lX:=hid hN
 have qW:=hid Hl
 have hM:=(Qca.new w #[.int .i64 t0,.string ⟨t1.toArray⟩,.int .i64 t2,.int .i64 file,.int .i64 t3,.int .i64 t4] 65).drew
 have Hd:Qaa (fun _=>False) w (w.alloc (.cells #[.int .i64 t0,.string ⟨t1.toArray⟩,.int .i64 t2,.int .i64 file,.int .i64 t3,.int .i64 t4] 65)).drew:=((Qaa.refl _ w).alloc _).drew
 have h3:=HH.out.keeps Hd
 obtain⟨x0,x1,x2,x3,x4,x5⟩:=Qga hM
 have xl:=hM.lt
 obtain⟨_,y1,_,y3,_,_,_,z1,_,z3,_,_,_,yl⟩:=h3.cells
 have H3:=hid h3
 have gh:=hid (Hd.mono (S:=(· = r)) (fun _ _ e=>e.elim))
 clear hN Hl hM Hd h3
 by_cases hk:t0=kind
 ·subst hk
  have HN:=hid (gF rfl)
  clear gF
  have hT:T = .ok (i+1):=by rw[HT.out,if_pos rfl,if_pos (show QKa 4 t1=true from rfl)]
  subst hT
  go_enter Tryz.func65,Tryz.ntmps65
  go_wp2_with fail
  go_region
  generalize (w.alloc (.cells #[.int .i64 t0,.string ⟨t1.toArray⟩,.int .i64 t2,.int .i64 file,.int .i64 t3,.int .i64 t4] 65)).drew=w3 at *
  go_wp2_with fail
  go_ret
  obtain⟨a,b⟩:=H3.out.step HN.out
  exact⟨gh.out.trans b (fun _ _ e=>e),by rw[ba.out];rfl,a⟩
 ·have hT:T = .error (i,6):=by rw[HT.out,if_neg hk]
  subst hT
  have kR:(t0 != kind)=true:=by rw[bne_iff_ne];exact hk
  have ju:=hid (HF.out _ H3.out 6 (by decide))
  clear hk gF
  go_enter Tryz.func65,Tryz.ntmps65
  go_wp2_with fail
  go_region
  generalize (w.alloc (.cells #[.int .i64 t0,.string ⟨t1.toArray⟩,.int .i64 t2,.int .i64 file,.int .i64 t3,.int .i64 t4] 65)).drew=w3 at *
  go_wp2_with fail
  refine(by exact ju.out:Calls _ _ _ _ _).mono ?_
  rintro e w2 ⟨rfl,Ho,Hp⟩
  go_wp2_with fail
  go_ret
  exact⟨gh.out.trans Hp (fun _ _ e=>e),rfl,Ho⟩
def R4R(w:World)(r base:Nat)(file:Int)(lv x ov:Value)(D:List Qwa):Prop:=
 Qca w r #[lv,x,ov,.int .i64 0,.int .i64 0,.int .i64 0,.int .i64 0] 78∧Q7a w base file ov D∧base≤r∧base≤w.heap.size
theorem Qxn{w w1 w8:World}{r base:Nat}{file:Int}{lv x ov v8:Value}{D:List Qwa}{d:Qwa}{pv:Value}{vs:List Value}{o:Obj}(h:R4R w r base file lv x ov D)(hp:Qha w base pv d.parts)(k1:Qaa (fun _=>False) w w1)
 (ky:vs.length=D.length) (Hc:w.ownsRow base 34 7 ov D.length (QRb file D vs)) (gf:∀k (h:k<D.length) (h2:k<vs.length),Qha w base vs[k] D[k].parts)
 (Hi:w8.ownsRow base 34 7 v8 (D.length+1) (QRb file D vs++[.int .i64 d.kind,.string d.label,.string d.name,pv,.int .i64 file,.int .i64 d.line,.int .i64 d.col])) (hg:(w1.alloc o).grownBy w8 ov.ownBlock) :
 r<w8.heap.size∧w8.frozen? ⟨r,2,none⟩=false∧w8.cell? ⟨r,2,none⟩=some ov∧R4R (w8.setCell ⟨r,2,none⟩ v8) r base file lv x v8 (D++[d])∧Qaa (fun b=>b=r∨ov.ownBlock=some b) w (w8.setCell ⟨r,2,none⟩ v8):=by
 have k2:Qaa (fun b=>ov.ownBlock=some b) w w8:=((k1.alloc o).mono (fun _ _ e=>e.elim)).grown hg (fun i e=>.inr e)
 have Hn:=Qua Hc h.1 (by decide)
 have h8:Qca w8 r #[lv,x,ov,.int .i64 0,.int .i64 0,.int .i64 0,.int .i64 0] 78:=h.1.keeps k2 Hn
 have Kb:∀{v:Value} {ps:List QRa},Qha w base v ps→Qha w8 base v ps:=by
  intro v ps GO
  obtain⟨us,u1,u2,u3⟩:=GO
  refine⟨us,u1,Qba u2 k2 (fun g dV e=>?_),fun j a b=>Qba (u3 j a b) k2 (fun g dV e=>?_)⟩
  ·obtain⟨_,_,cur,q⟩:=Qpa Hc e
   exact Qua u2 q (by decide) dV
  ·obtain⟨_,_,cur,q⟩:=Qpa Hc e
   exact Qua (u3 j a b) q (by decide) dV
 have h9:=h8.set 2 v8
 have k3:=(Qaa.refl (· = r) w8).setCell (p:=⟨r,2,none⟩) (.inr rfl) v8
 have ha:=QLa.one h8 (by decide) (by decide) (by decide)
 refine⟨h8.lt,h8.free 2,h8.cell 2,⟨h9,?_,h.2.2.1,Nat.le_trans h.2.2.2 (Nat.le_trans k2.size k3.size)⟩,(k2.mono (fun _ _ e=>.inr e)).setCell (.inr (.inl rfl)) v8⟩
 refine Q7a.keeps ?_ k3 ha
 refine⟨vs++[pv],by simp[ky],?_,?_⟩
 ·rw[QDd file D vs d pv ky]
  simpa using Hi
 ·intro j hj Gr
  by_cases e:j<D.length
  ·rw[List.getElem_append_left (by omega),List.getElem_append_left e]
   exact Kb (gf j e (by omega))
  ·have mi:j=D.length:=by simp at hj;omega
   subst mi
   rw[List.getElem_append_right (by omega),List.getElem_append_right (by omega)]
   simp only[ky,Nat.sub_self,List.getElem_cons_zero]
   exact Kb hp
set_option maxRecDepth 100000 in
theorem QZq(w:World)(r base:Nat)(file:Int)(lv x ov:Value)(D:List Qwa)(d:Qwa)(pv:Value)(h:R4R w r base file lv x ov D)(hp:Qha w base pv d.parts)(hl:D.length≤20000) :
 Calls Tryz.prog 64 #[.pointer (some ⟨r,0,none⟩),QXb file d pv] w fun e w'=>e = .returned (.tuple #[])∧∃ov',R4R w' r base file lv x ov' (D++[d])∧Qaa (fun b=>b=r∨ov.ownBlock=some b) w w':=by
 obtain⟨pa,pc,rfl⟩:=hp.slice
 obtain⟨oa,oc,rfl⟩:=h.2.1.slice
 obtain⟨vs,ky,Hc,gf⟩:=id h.2.1
 have GM:=h.2.2.2
 have hH:=h.1
 have gU:=hid (fun(w1 w8:World) (v8:Value) (o:Obj) k1 Hi hg=>Qxn (w1:=w1) (w8:=w8) (v8:=v8) (o:=o) h hp k1 ky Hc gf Hi hg)
 have Hv:=World.ownsRow.alloc Hc (.cells (Qbc file d (.slice pa d.parts.length pc)) 34)
 have hN:=Qca.new w (Qbc file d (.slice pa d.parts.length pc)) 34
 have Gv:=hH.alloc (.cells (Qbc file d (.slice pa d.parts.length pc)) 34)
 have k1:=(Qaa.refl (fun _=>False) w).alloc (.cells (Qbc file d (.slice pa d.parts.length pc)) 34)
 unfold QXb
 unfold Qbc at Hv hN Gv k1
 clear gf Hc h hp hH
 generalize QRb file D vs=xs at *
 obtain⟨dk,dl,dn,dp,dli,dc⟩:=d
 simp only at *
 obtain⟨i0,hi,GE,GF,GA⟩:=info_parts QGj
 have c3:=Gv.cell 3
 have crl0:=Gv.lt
 simp only[List.getElem?_toArray,List.getElem?_cons_succ,List.getElem?_cons_zero]at c3
 go_enter Tryz.func64,Tryz.ntmps64
 go_wp2_with fail
 generalize w.alloc (.cells #[.int .i64 dk,.string dl,.string dn,.slice pa dp.length pc,.int .i64 file,.int .i64 dli,.int .i64 dc] 34)=wb at *
 obtain⟨m0,m1,m2,m3,m4,m5,m6⟩:=Qna hN
 have c2:wb.cell? ⟨r,2,none⟩=some (.slice oa D.length oc):=Gv.cell 2
 have Hl:=hN.lt
 have sN:=Nat.le_trans GM k1.size
 have Gm:=hid (World.ownsRow.alloc (show wb.drew.ownsRow base 34 7 (.slice oa D.length oc) D.length xs from Hv) (.cells #[.int .i64 dk,.string dl,.string dn,.slice pa dp.length pc,.int .i64 file,.int .i64 dli,.int .i64 dc] 34))
 clear Hv Gv hN
 go_region_law (refine step_append_lies _ (by rfl) _ _ _ (by rfl) base 34 i0 _ 7 88 Tryz.underlying25 hi GE GF GA rfl (by omega) _ D.length xs (by rfl) Gm.out ⟨wb.heap.size,0,none⟩ 1 1 [.int .i64 dk,.string dl,.string dn,.slice pa dp.length pc,.int .i64 file,.int .i64 dli,.int .i64 dc] (by rfl) (by rfl) (World.news_of_block (cs:=#[.int .i64 dk,.string dl,.string dn,.slice pa dp.length pc,.int .i64 file,.int .i64 dli,.int .i64 dc]) (t:=34) (fr:=(0,0)) (heap_alloc_new wb.drew _)) (by simp[Value.oneCell']) (by omega) (by unfold maxLen;omega) (by omega) (by simp;omega) (wb.heap.size+1) (by simp) ?_;intro gg cap2 w8 GZ Hb Gg dj;obtain⟨y0,y1,y2,y3,y4⟩:=gU.out wb.drew w8 _ _ k1.drew GZ Hb)
 all_goals
  go_wp2_with fail
  go_end0
  exact⟨rfl,_,y3,y4⟩
theorem Q8p(L:List Tok)(lv:Value)(B i:Nat)(file:Int)(w:World)(h:Qjf B w lv file L)(hB:B≤w.heap.size)(ho:LOk L)(hi:i<L.length) :
 Calls Tryz.prog 149 #[lv,.int .i64 i] w fun e w'=>e = .returned (.tuple #[.int .i64 (Q8b L i).1,.int .i64 (Q8b L i).2.1,.int .i64 (Q8b L i).2.2])∧Below w.heap.size w w':=by
 refine(Qrl (L.map tkX) lv i w (h.tokAt hB ho) (by rw[List.length_map];have:=ho.len;omega) (by rw[List.length_map];exact hi)).mono ?_
 rintro e w' ⟨res,hr,rfl,hb⟩
 have:QSf res=Q8b L i:=by unfold Q8b;rw[hr.evF trivial]
 rw[this]
 exact⟨rfl,hb⟩
def Qgg(L:List Tok)(i:Nat):Rs (Nat × QJb):=
 if (tkN L i).kind=6 then(if Qra (tkN L i).text=true then .ok (i+1,⟨0,txN L i⟩)else .error (i,1))
 else if (Q8b L i).2.2≠0 then .error (i,(Q8b L i).2.2)else .ok ((Q8b L i).2.1.toNat,⟨(Q8b L i).1,⟨#[]⟩⟩)
def Qri(r base:Nat)(file:Int)(L:List Tok)(lv ov:Value)(D:List Qwa)(R:Rs (Nat × QJb))(w:World)(e:Ending)(w':World):Prop:=
 Qaa (· = r) w w'∧match R with
  | .ok (j,c)=>e = .returned (.agg #[.int .i64 c.value,.string c.label])∧Q4a w' r base file L lv ov j D
  | .error (k,c)=>e = .returned (.agg #[.int .i64 0,.string ⟨#[]⟩])∧QIb w' r file L k c
theorem QZo{w w2:World}{r base:Nat}{file:Int}{L:List Tok}{lv ov:Value}{i j:Nat}{D:List Qwa}{x y:Value}(h:Q4a w r base file L lv ov i D)(ha:Q4a w2 r base file L lv ov j D)(GV:i≤j)(k2:Qaa (· = r) w w2)(hZ:Qca w2 w.heap.size #[x,y] 72)(hB:w.heap.size≠r)(a b:Value) :
 ((w2.setCell ⟨w.heap.size,0,none⟩ a).setCell ⟨w.heap.size,1,none⟩ b).cell? ⟨w.heap.size,0,none⟩=some a∧((w2.setCell ⟨w.heap.size,0,none⟩ a).setCell ⟨w.heap.size,1,none⟩ b).cell? ⟨w.heap.size,1,none⟩=some b∧
 Q4a ((w2.setCell ⟨w.heap.size,0,none⟩ a).setCell ⟨w.heap.size,1,none⟩ b) r base file L lv ov j D∧Qaa (· = r) w ((w2.setCell ⟨w.heap.size,0,none⟩ a).setCell ⟨w.heap.size,1,none⟩ b):=by
 have hz:=(hZ.set 0 a).set 1 b
 have k:=(k2.setCell (p:=⟨w.heap.size,0,none⟩) (.inl (Nat.le_refl _)) a).setCell (p:=⟨w.heap.size,1,none⟩) (.inl (Nat.le_refl _)) b
 exact⟨hz.cell 0,hz.cell 1,h.turn k ((ha.holds.other ⟨w.heap.size,0,none⟩ a (Ne.symm hB)).other ⟨w.heap.size,1,none⟩ b (Ne.symm hB)) ha.lt GV,k⟩
theorem Quh{w w2:World}{r:Nat}{file:Int}{L:List Tok}{k:Nat}{c:Int}{x y:Value}(ha:QIb w2 r file L k c)(k2:Qaa (· = r) w w2)(hZ:Qca w2 w.heap.size #[x,y] 72)(hB:w.heap.size≠r)(a b:Value) :
 ((w2.setCell ⟨w.heap.size,0,none⟩ a).setCell ⟨w.heap.size,1,none⟩ b).cell? ⟨w.heap.size,0,none⟩=some a∧((w2.setCell ⟨w.heap.size,0,none⟩ a).setCell ⟨w.heap.size,1,none⟩ b).cell? ⟨w.heap.size,1,none⟩=some b∧
 QIb ((w2.setCell ⟨w.heap.size,0,none⟩ a).setCell ⟨w.heap.size,1,none⟩ b) r file L k c∧Qaa (· = r) w ((w2.setCell ⟨w.heap.size,0,none⟩ a).setCell ⟨w.heap.size,1,none⟩ b):=by
 have hz:=(hZ.set 0 a).set 1 b
 have kk:=(k2.setCell (p:=⟨w.heap.size,0,none⟩) (.inl (Nat.le_refl _)) a).setCell (p:=⟨w.heap.size,1,none⟩) (.inl (Nat.le_refl _)) b
 obtain⟨h0,lv,x,ov,h⟩:=ha
 exact⟨hz.cell 0,hz.cell 1,⟨h0,lv,x,ov,(h.other ⟨w.heap.size,0,none⟩ a (Ne.symm hB)).other ⟨w.heap.size,1,none⟩ b (Ne.symm hB)⟩,kk⟩
set_option maxRecDepth 100000 in
theorem Q6p(w:World)(r base:Nat)(file:Int)(L:List Tok)(lv ov:Value)(i:Nat)(D:List Qwa)(h:Q4a w r base file L lv ov i D) :
 Calls Tryz.prog 143 #[.pointer (some ⟨r,0,none⟩)] w (Qri r base file L lv ov D (Qgg L i) w):=by
 obtain⟨c0,c1,c2,c3,_,_,_,f1,f2,f3,_,_,_,cl⟩:=h.cells
 obtain⟨n1,n2⟩:=h.num
 have HF:=hid (fun c hc=>QNb w r base file L lv ov i D h c hc)
 have GK:=hid (fun wx hx=>Qec wx r base file L lv ov i D hx 6 (by decide))
 have jy:=hid (fun wx (hx:Q4a wx r base file L lv ov i D)=>Q8p L lv base i file wx hx.toks hx.size hx.ok hx.lt)
 have wF:=hid (fun e=>Qtf h.ok h.lt e)
 have HH:=hid h
 have HC:=hid (show Qgg L i=if (tkN L i).kind=6 then(if Qra (tkN L i).text=true then .ok (i+1,⟨0,txN L i⟩)else .error (i,1))
  else if (Q8b L i).2.2≠0 then .error (i,(Q8b L i).2.2)else .ok ((Q8b L i).2.1.toNat,⟨(Q8b L i).1,⟨#[]⟩⟩)from rfl)
 have gA:=hid (show Qja L 6 (QKa 3) i=if (tkN L i).kind=6 then(if Qra (tkN L i).text=true then .ok (i+1)else .error (i,1))else .error (i,6)from rfl)
 obtain⟨g,cap,rfl,hg,d0,d1,d2,d3,d4,d5⟩:=h.toks.at h.lt
 have gl:g<w.heap.size:=World.block_lt_of_cell? w _ d0
 clear h d1 d2 d3 d4 d5
 have Ki:=Qca.new w #[.int .i64 0,.string ⟨#[]⟩] 72
 have my:Qaa (fun _=>False) w (w.alloc (.cells #[.int .i64 0,.string ⟨#[]⟩] 72)):=(Qaa.refl _ w).alloc _
 have Jg:=hid Ki
 have K0:=hid my
 clear Ki my
 have kn:w.heap.size≠r:=by omega
 by_cases hk:(tkN L i).kind=6
 ·rw[hk]at d0
  have HK:=hid hk
  clear hk
  go_enter Tryz.func143,Tryz.ntmps143
  go_wp2_with fail
  go_quiet (fail)
  go_wp2_with fail
  obtain⟨T,hT⟩:∃T,T=Qja L 6 (QKa 3) i:=⟨_,rfl⟩
  rw[←hT]at GK gA
  have MC:=hid hT
  clear hT
  cases hb:Qra (tkN L i).text with
  | true=>
   have e1:=gA.out
   rw[if_pos HK.out,if_pos hb]at e1
   have e2:=HC.out
   rw[if_pos HK.out,if_pos hb]at e2
   have E2:=hid e2
   subst e1
   clear e2 hb
   refine(by exact GK.out _ (HH.out.keeps (K0.out.drewN _)):Calls _ _ _ _ _).mono ?_
   rintro e w2 ⟨Hp,rfl,ha⟩
   have gw:=(Jg.out.drewN _).keeps Hp kn
   have HA:=hid ha
   have Gw:=hid (((K0.out.drewN _).mono (S:=(· = r)) (fun _ _ e=>e.elim)).trans Hp (fun _ _ e=>e))
   have z0:=gw.cell 0
   have z1:=gw.cell 1
   have y0:=gw.free 0
   have y1:=gw.free 1
   have zl:=gw.lt
   have mq:=hid gw
   clear gw ha Hp
   generalize txN L i=X at *
   go_wp2_with fail
   obtain⟨q0,q1,q2,q3⟩:=QZo HH.out HA.out (by omega) Gw.out mq.out kn (.int .i64 0) (.string X)
   exact bodyPost_ret (v:=.agg #[.int .i64 0,.string X]) (by simp[results,Tryz.results143,go_sem,q0,q1]) rfl ⟨q3,by rw[E2.out];exact⟨rfl,q2⟩⟩
  | false=>
   have hb':¬Qra (tkN L i).text=true:=by rw[hb];exact Bool.false_ne_true
   have e1:=gA.out
   rw[if_pos HK.out,if_neg hb']at e1
   have e2:=HC.out
   rw[if_pos HK.out,if_neg hb']at e2
   have E2:=hid e2
   subst e1
   clear e2 hb hb'
   refine(by exact GK.out _ (HH.out.keeps (K0.out.drewN _)):Calls _ _ _ _ _).mono ?_
   rintro e w2 ⟨Hp,rfl,ha⟩
   have gw:=(Jg.out.drewN _).keeps Hp kn
   have HA:=hid ha
   have Gw:=hid (((K0.out.drewN _).mono (S:=(· = r)) (fun _ _ e=>e.elim)).trans Hp (fun _ _ e=>e))
   have z0:=gw.cell 0
   have z1:=gw.cell 1
   have y0:=gw.free 0
   have y1:=gw.free 1
   have zl:=gw.lt
   have mq:=hid gw
   clear gw ha Hp
   go_wp2_with fail
   obtain⟨q0,q1,q2,q3⟩:=Quh HA.out Gw.out mq.out kn (.int .i64 0) (.string ⟨#[]⟩)
   exact bodyPost_ret (v:=.agg #[.int .i64 0,.string ⟨#[]⟩]) (by simp[results,Tryz.results143,go_sem,q0,q1]) rfl ⟨q3,by rw[E2.out];exact⟨rfl,q2⟩⟩
 ·have kR:((tkN L i).kind == 6)=false:=by rw[beq_eq_false_iff_ne];exact hk
  have HK:=hid hk
  generalize (tkN L i).kind=kd at *
  clear hk
  generalize Q8b L i=P at *
  obtain⟨p1,p2,p3⟩:=P
  go_enter Tryz.func143,Tryz.ntmps143
  go_wp2_with fail
  go_quiet (fail)
  go_wp2_with fail
  generalize kH:(w.alloc (.cells #[.int .i64 0,.string ⟨#[]⟩] 72)).drewN _=w5
  have Hs:Qaa (fun _=>False) w w5:=by rw[←kH];exact K0.out.drewN _
  have h5:=HH.out.keeps Hs
  have KV:Qca w5 w.heap.size #[.int .i64 0,.string ⟨#[]⟩] 72:=by rw[←kH];exact Jg.out.drewN _
  have H5:=hid h5
  have mE:=hid KV
  have kb:=hid Hs
  obtain⟨b0,b1,_,b3,_,_,_,a1,_,a3,_,_,_,bl⟩:=h5.cells
  clear kH Hs h5 KV
  by_cases hp:p3=0
  ·obtain⟨j,hj,GV,mi⟩:=wF.out hp
   have e2:=HC.out
   rw[if_neg HK.out,if_neg (by simpa using hp)]at e2
   have E2:=hid e2
   subst hp hj
   clear e2
   go_region_with (go_at_call 149;refine(jy.out _ (by exact H5.out.keeps ((Qaa.refl _ _).drew))).mono ?_;rintro e w3 ⟨rfl,gm⟩)
   all_goals
    have Hd:Qaa (fun _=>False) w5 w3:=((Qaa.refl (fun _=>False) w5).drew).trans (Qaa.of_fresh gm (fun _=>False)) (fun _ _ e=>e)
    have h3:=H5.out.keeps Hd
    have Gd:=mE.out.keeps Hd (fun e=>e)
    obtain⟨_,v1,_,v3,_,_,_,u1,_,u3,_,_,_,vl⟩:=h3.cells
    have gh:=hid ((kb.out.trans Hd (fun _ _ e=>e)).mono (S:=(· = r)) (fun _ _ e=>e.elim))
    have kj:=(Qaa.refl (· = r) w3).setCell (p:=⟨r,1,none⟩) (.inr rfl) (.int .i64 (j:Int))
    have HJ:=hid (h3.turn kj (h3.holds.set 1 (.int .i64 (j:Int))) mi (by omega))
    have wm:=hid (gh.out.trans kj (fun _ _ e=>e))
    have fJ:=Gd.other ⟨r,1,none⟩ (.int .i64 (j:Int)) kn
    have z0:=fJ.cell 0
    have z1:=fJ.cell 1
    have y0:=fJ.free 0
    have y1:=fJ.free 1
    have zl:=fJ.lt
    have wT:=hid fJ
    clear fJ Gd h3 Hd gm kj
    go_wp2_with fail
    obtain⟨q0,q1,q2,q3⟩:=QZo HH.out HJ.out (by omega) wm.out wT.out kn (.int .i64 p1) (.string ⟨#[]⟩)
    exact bodyPost_ret (v:=.agg #[.int .i64 p1,.string ⟨#[]⟩]) (by simp[results,Tryz.results143,go_sem,q0,q1]) rfl ⟨q3,by rw[E2.out];exact⟨rfl,q2⟩⟩
  ·have e2:=HC.out
   rw[if_neg HK.out,if_pos (by simpa using hp)]at e2
   have E2:=hid e2
   have pp:(p3 != 0)=true:=by rw[bne_iff_ne];exact hp
   have HP:=hid hp
   clear e2 hp
   go_region_with (go_at_call 149;refine(jy.out _ (by exact H5.out.keeps ((Qaa.refl _ _).drew))).mono ?_;rintro e w3 ⟨rfl,gm⟩)
   all_goals
    have Hd:Qaa (fun _=>False) w5 w3:=((Qaa.refl (fun _=>False) w5).drew).trans (Qaa.of_fresh gm (fun _=>False)) (fun _ _ e=>e)
    have h3:=H5.out.keeps Hd
    have Gd:=mE.out.keeps Hd (fun e=>e)
    have gh:=hid ((kb.out.trans Hd (fun _ _ e=>e)).mono (S:=(· = r)) (fun _ _ e=>e.elim))
    have ju:=hid (QNb w3 r base file L _ ov i D h3 p3 HP.out)
    have mr:=hid Gd
    clear Gd h3 Hd gm
    go_wp2_with fail
    refine(by exact ju.out:Calls _ _ _ _ _).mono ?_
    rintro e w2 ⟨rfl,Hj,Hp⟩
    have gw:=mr.out.keeps Hp kn
    have HA:=hid Hj
    have Gw:=hid (gh.out.trans Hp (fun _ _ e=>e))
    have z0:=gw.cell 0
    have z1:=gw.cell 1
    have y0:=gw.free 0
    have y1:=gw.free 1
    have zl:=gw.lt
    have mq:=hid gw
    clear gw Hj Hp
    go_wp2_with fail
    obtain⟨q0,q1,q2,q3⟩:=Quh HA.out Gw.out mq.out kn (.int .i64 0) (.string ⟨#[]⟩)
    exact bodyPost_ret (v:=.agg #[.int .i64 0,.string ⟨#[]⟩]) (by simp[results,Tryz.results143,go_sem,q0,q1]) rfl ⟨q3,by rw[E2.out];exact⟨rfl,q2⟩⟩
def Quc(r base:Nat)(file:Int)(L:List Tok)(lv ov:Value)(D:List Qwa)(R:Rs (Nat × QRa))(w:World)(e:Ending)(w':World):Prop:=
 Qaa (· = r) w w'∧match R with
  | .ok (j,p)=>∃cv,e = .returned (.agg #[.int .i64 p.kind,cv,.string p.text])∧Qfa w' base cv p.cells∧Q4a w' r base file L lv ov j D
  | .error (k,c)=>∃(p:QRa) (cv:Value),e = .returned (.agg #[.int .i64 p.kind,cv,.string p.text])∧Qfa w' base cv p.cells∧QIb w' r file L k c
def QHe(w:World)(B:Nat)(a b c:Value):World:=((w.setCell ⟨B,0,none⟩ a).setCell ⟨B,1,none⟩ b).setCell ⟨B,2,none⟩ c
theorem QMb{w2:World}{B:Nat}{x y z:Value}{t:TypeId}(hZ:Qca w2 B #[x,y,z] t)(a b c:Value):(QHe w2 B a b c).cell? ⟨B,0,none⟩=some a∧(QHe w2 B a b c).cell? ⟨B,1,none⟩=some b∧(QHe w2 B a b c).cell? ⟨B,2,none⟩=some c:=by
 have hz:=((hZ.set 0 a).set 1 b).set 2 c
 exact⟨hz.cell 0,hz.cell 1,hz.cell 2⟩
theorem Qab{w w2:World}{S:Nat→Prop}(k2:Qaa S w w2){B:Nat}(hB:w.heap.size≤B∨S B)(a b c:Value):Qaa S w (QHe w2 B a b c):=
 ((k2.setCell (p:=⟨B,0,none⟩) hB a).setCell (p:=⟨B,1,none⟩) hB b).setCell (p:=⟨B,2,none⟩) hB c
theorem QAg{w2:World}{r B:Nat}{xs:Array Value}{t:TypeId}(h:Qca w2 r xs t)(hB:B≠r)(a b c:Value):Qca (QHe w2 B a b c) r xs t:=
 ((h.other ⟨B,0,none⟩ a (Ne.symm hB)).other ⟨B,1,none⟩ b (Ne.symm hB)).other ⟨B,2,none⟩ c (Ne.symm hB)
theorem Q4h{w w2:World}{r base:Nat}{file:Int}{L:List Tok}{lv ov:Value}{i j:Nat}{D:List Qwa}(h:Q4a w r base file L lv ov i D)(ha:Q4a w2 r base file L lv ov j D)(GV:i≤j)(k2:Qaa (· = r) w w2)(hB:w.heap.size≠r)(a b c:Value) :
 Q4a (QHe w2 w.heap.size a b c) r base file L lv ov j D:=
 h.turn (Qab k2 (.inl (Nat.le_refl _)) a b c) (QAg ha.holds hB a b c) ha.lt GV
theorem QZc{w w2:World}{r:Nat}{file:Int}{L:List Tok}{k:Nat}{c0:Int}(ha:QIb w2 r file L k c0)(hB:w.heap.size≠r)(a b c:Value):QIb (QHe w2 w.heap.size a b c) r file L k c0:=by
 obtain⟨h0,lv,x,ov,h⟩:=ha
 exact⟨h0,lv,x,ov,QAg h hB a b c⟩
set_option maxRecDepth 100000 in
theorem QXj(w:World)(r base:Nat)(file:Int)(L:List Tok)(lv ov:Value)(i:Nat)(D:List Qwa)(h:Q4a w r base file L lv ov i D)(hk:(tkN L i).kind=3) :
 Calls Tryz.prog 130 #[.pointer (some ⟨r,0,none⟩)] w (Quc r base file L lv ov D (Qsb L i) w):=by
 obtain⟨c0,c1,c2,c3,_,_,_,f1,f2,f3,_,_,_,cl⟩:=h.cells
 obtain⟨n1,n2⟩:=h.num
 have bY:=fun wx hx=>QSk wx r base file L lv ov i D hx 3 (by decide)
 rw[show Qja L 3 (QKa 4) i = .ok (i+1)from by unfold Qja;rw[if_pos hk];rfl]at bY
 have HP:=hid (show Qsb L i = .ok (i+1,⟨2,[],txN L i⟩)from by unfold Qsb;rw[if_pos hk])
 have GK:=hid bY
 have HH:=hid h
 obtain⟨g,cap,rfl,hg,d0,_⟩:=h.toks.at h.lt
 have gl:g<w.heap.size:=World.block_lt_of_cell? w _ d0
 have Ki:=Qca.new w #[.int .i64 0,.slice none 0 0,.string ⟨#[]⟩] 75
 have my:Qaa (fun _=>False) w (w.alloc (.cells #[.int .i64 0,.slice none 0 0,.string ⟨#[]⟩] 75)):=(Qaa.refl _ w).alloc _
 have Jg:=hid Ki
 have K0:=hid my
 have kn:w.heap.size≠r:=by omega
 rw[hk]at d0
 clear h hk bY Ki my
 go_enter Tryz.func130,Tryz.ntmps130
 go_wp2_with fail
 go_quiet (fail)
 go_wp2_with fail
 refine(by exact GK.out _ (HH.out.keeps (K0.out.drewN _)):Calls _ _ _ _ _).mono ?_
 rintro e w2 ⟨Hp,rfl,ha⟩
 have gw:=(Jg.out.drewN _).keeps Hp kn
 have HA:=hid ha
 have Gw:=hid (((K0.out.drewN _).mono (S:=(· = r)) (fun _ _ e=>e.elim)).trans Hp (fun _ _ e=>e))
 have z0:=gw.cell 0
 have z1:=gw.cell 1
 have z2:=gw.cell 2
 have y0:=gw.free 0
 have y1:=gw.free 1
 have y2:=gw.free 2
 have zl:=gw.lt
 have mq:=hid gw
 clear gw ha Hp
 generalize txN L i=X at *
 go_wp2_with fail
 obtain⟨q0,q1,q2⟩:=QMb mq.out (.int .i64 2) (.slice none 0 0) (.string X)
 unfold QHe at q0 q1 q2
 exact bodyPost_ret (v:=.agg #[.int .i64 2,.slice none 0 0,.string X]) (by simp[results,Tryz.results130,go_sem,q0,q1,q2]) rfl ⟨Qab Gw.out (.inl (Nat.le_refl _)) _ _ _,by rw[HP.out];exact⟨_,rfl,Qfa.none _ _,Q4h HH.out HA.out (by omega) Gw.out kn _ _ _⟩⟩
set_option maxRecDepth 100000 in
theorem QWj(w:World)(r base:Nat)(file:Int)(L:List Tok)(lv ov:Value)(i:Nat)(D:List Qwa)(h:Q4a w r base file L lv ov i D)(hk:(tkN L i).kind=6)(hb:Qra (tkN L i).text=true) :
 Calls Tryz.prog 130 #[.pointer (some ⟨r,0,none⟩)] w (Quc r base file L lv ov D (Qsb L i) w):=by
 obtain⟨c0,c1,c2,c3,_,_,_,f1,f2,f3,_,_,_,cl⟩:=h.cells
 obtain⟨n1,n2⟩:=h.num
 have bY:=fun wx hx=>Qec wx r base file L lv ov i D hx 6 (by decide)
 rw[show Qja L 6 (QKa 3) i = .ok (i+1)from by unfold Qja;rw[if_pos hk];exact if_pos hb]at bY
 have HP:=hid (show Qsb L i = .ok (i+1,⟨4,[],txN L i⟩)from by unfold Qsb;rw[if_neg (by rw[hk];decide),if_pos hk,if_pos hb])
 clear hb
 have GK:=hid bY
 have HH:=hid h
 obtain⟨g,cap,rfl,hg,d0,_⟩:=h.toks.at h.lt
 have gl:g<w.heap.size:=World.block_lt_of_cell? w _ d0
 have Ki:=Qca.new w #[.int .i64 0,.slice none 0 0,.string ⟨#[]⟩] 75
 have my:Qaa (fun _=>False) w (w.alloc (.cells #[.int .i64 0,.slice none 0 0,.string ⟨#[]⟩] 75)):=(Qaa.refl _ w).alloc _
 have Jg:=hid Ki
 have K0:=hid my
 have kn:w.heap.size≠r:=by omega
 rw[hk]at d0
 clear h hk bY Ki my
 go_enter Tryz.func130,Tryz.ntmps130
 go_wp2_with fail
 go_quiet (fail)
 go_wp2_with fail
 go_quiet (fail)
 go_wp2_with fail
 refine(by exact GK.out _ (HH.out.keeps (K0.out.drewN _)):Calls _ _ _ _ _).mono ?_
 rintro e w2 ⟨Hp,rfl,ha⟩
 have gw:=(Jg.out.drewN _).keeps Hp kn
 have HA:=hid ha
 have Gw:=hid (((K0.out.drewN _).mono (S:=(· = r)) (fun _ _ e=>e.elim)).trans Hp (fun _ _ e=>e))
 have z0:=gw.cell 0
 have z1:=gw.cell 1
 have z2:=gw.cell 2
 have y0:=gw.free 0
 have y1:=gw.free 1
 have y2:=gw.free 2
 have zl:=gw.lt
 have mq:=hid gw
 clear gw ha Hp
 generalize txN L i=X at *
 go_wp2_with fail
 obtain⟨q0,q1,q2⟩:=QMb mq.out (.int .i64 4) (.slice none 0 0) (.string X)
 unfold QHe at q0 q1 q2
 exact bodyPost_ret (v:=.agg #[.int .i64 4,.slice none 0 0,.string X]) (by simp[results,Tryz.results130,go_sem,q0,q1,q2]) rfl ⟨Qab Gw.out (.inl (Nat.le_refl _)) _ _ _,by rw[HP.out];exact⟨_,rfl,Qfa.none _ _,Q4h HH.out HA.out (by omega) Gw.out kn _ _ _⟩⟩
set_option maxRecDepth 100000 in
theorem Q7g(w:World)(r base:Nat)(file:Int)(L:List Tok)(lv ov:Value)(i:Nat)(D:List Qwa)(h:Q4a w r base file L lv ov i D)(hk:(tkN L i).kind=6)(hb:¬Qra (tkN L i).text=true) :
 Calls Tryz.prog 130 #[.pointer (some ⟨r,0,none⟩)] w (Quc r base file L lv ov D (Qsb L i) w):=by
 obtain⟨c0,c1,c2,c3,_,_,_,f1,f2,f3,_,_,_,cl⟩:=h.cells
 obtain⟨n1,n2⟩:=h.num
 have bY:=fun wx hx=>Qec wx r base file L lv ov i D hx 6 (by decide)
 rw[show Qja L 6 (QKa 3) i = .error (i,1)from by unfold Qja;rw[if_pos hk];exact if_neg hb]at bY
 have HP:=hid (show Qsb L i = .error (i,1)from by unfold Qsb;rw[if_neg (by rw[hk];decide),if_pos hk,if_neg hb])
 clear hb
 have GK:=hid bY
 have HH:=hid h
 obtain⟨g,cap,rfl,hg,d0,_⟩:=h.toks.at h.lt
 have gl:g<w.heap.size:=World.block_lt_of_cell? w _ d0
 have Ki:=Qca.new w #[.int .i64 0,.slice none 0 0,.string ⟨#[]⟩] 75
 have my:Qaa (fun _=>False) w (w.alloc (.cells #[.int .i64 0,.slice none 0 0,.string ⟨#[]⟩] 75)):=(Qaa.refl _ w).alloc _
 have Jg:=hid Ki
 have K0:=hid my
 have kn:w.heap.size≠r:=by omega
 rw[hk]at d0
 clear h hk bY Ki my
 go_enter Tryz.func130,Tryz.ntmps130
 go_wp2_with fail
 go_quiet (fail)
 go_wp2_with fail
 go_quiet (fail)
 go_wp2_with fail
 refine(by exact GK.out _ (HH.out.keeps (K0.out.drewN _)):Calls _ _ _ _ _).mono ?_
 rintro e w2 ⟨Hp,rfl,ha⟩
 have gw:=(Jg.out.drewN _).keeps Hp kn
 have HA:=hid ha
 have Gw:=hid (((K0.out.drewN _).mono (S:=(· = r)) (fun _ _ e=>e.elim)).trans Hp (fun _ _ e=>e))
 have z0:=gw.cell 0
 have z1:=gw.cell 1
 have z2:=gw.cell 2
 have y0:=gw.free 0
 have y1:=gw.free 1
 have y2:=gw.free 2
 have zl:=gw.lt
 have mq:=hid gw
 clear gw ha Hp
 generalize txN L i=X at *
 go_wp2_with fail
 obtain⟨q0,q1,q2⟩:=QMb mq.out (.int .i64 4) (.slice none 0 0) (.string ⟨#[]⟩)
 unfold QHe at q0 q1 q2
 exact bodyPost_ret (v:=.agg #[.int .i64 4,.slice none 0 0,.string ⟨#[]⟩]) (by simp[results,Tryz.results130,go_sem,q0,q1,q2]) rfl ⟨Qab Gw.out (.inl (Nat.le_refl _)) _ _ _,by rw[HP.out];exact⟨⟨4,[],⟨#[]⟩⟩,_,rfl,Qfa.none _ _,QZc HA.out kn _ _ _⟩⟩
set_option maxRecDepth 100000 in
theorem Q2i(w:World)(r base:Nat)(file:Int)(L:List Tok)(lv ov:Value)(i:Nat)(D:List Qwa)(h:Q4a w r base file L lv ov i D)(h3:(tkN L i).kind≠3)(h6:(tkN L i).kind≠6)(hb:isK L i 4 [91]=false)(hc:isK L i 4 [60]=false) :
 Calls Tryz.prog 130 #[.pointer (some ⟨r,0,none⟩)] w (Quc r base file L lv ov D (Qsb L i) w):=by
 obtain⟨c0,c1,c2,c3,_,_,_,f1,f2,f3,_,_,_,cl⟩:=h.cells
 obtain⟨n1,n2⟩:=h.num
 have Hu:=fun wx hx=>QZb wx r base file L lv ov i D hx 4 [91] (by decide)
 have gz:=fun wx hx=>QZb wx r base file L lv ov i D hx 4 [60] (by decide)
 rw[hb]at Hu
 rw[hc]at gz
 have KC:=hid Hu
 have Mi:=hid gz
 have HF:=hid (fun wx hx=>QNb wx r base file L lv ov i D hx 6 (by decide))
 have HH:=hid h
 have HP:=hid (show Qsb L i = .error (i,6)from by unfold Qsb;rw[if_neg h3,if_neg h6,if_neg (by rw[hc];exact Bool.false_ne_true),if_neg (by rw[hb];exact Bool.false_ne_true)])
 obtain⟨g,cap,rfl,hg,d0,_⟩:=h.toks.at h.lt
 have gl:g<w.heap.size:=World.block_lt_of_cell? w _ d0
 have Ki:=Qca.new w #[.int .i64 0,.slice none 0 0,.string ⟨#[]⟩] 75
 have my:Qaa (fun _=>False) w (w.alloc (.cells #[.int .i64 0,.slice none 0 0,.string ⟨#[]⟩] 75)):=(Qaa.refl _ w).alloc _
 have Jg:=hid Ki
 have K0:=hid my
 have kn:w.heap.size≠r:=by omega
 have g3:((tkN L i).kind == 3)=false:=by rw[beq_eq_false_iff_ne];exact h3
 have g6:((tkN L i).kind == 6)=false:=by rw[beq_eq_false_iff_ne];exact h6
 generalize (tkN L i).kind=kd at *
 clear h h3 h6 hb hc Hu gz Ki my
 go_enter Tryz.func130,Tryz.ntmps130
 go_wp2_with fail
 go_quiet (fail)
 go_wp2_with fail
 go_quiet (fail)
 go_wp2_with fail
 refine(by exact KC.out _ (HH.out.keeps (K0.out.drewN _)):Calls _ _ _ _ _).mono ?_
 rintro e w1 ⟨rfl,Ht⟩
 have g9:=(K0.out.drewN _).trans Ht (fun _ _ e=>e)
 have eY:=hid ((Jg.out.drewN _).keeps Ht (fun e=>e))
 have Gj:=hid g9
 clear g9 Ht
 go_wp2_with fail
 refine(by exact Mi.out _ (HH.out.keeps Gj.out):Calls _ _ _ _ _).mono ?_
 rintro e w2 ⟨rfl,Hp⟩
 have mq:=hid (eY.out.keeps Hp (fun e=>e))
 have Gw:=hid (Gj.out.trans Hp (fun _ _ e=>e))
 clear Hp
 go_wp2_with fail
 refine(by exact HF.out _ (HH.out.keeps Gw.out):Calls _ _ _ _ _).mono ?_
 rintro e w3 ⟨rfl,Hj,Hd⟩
 have Gd:=mq.out.keeps Hd kn
 have HA:=hid Hj
 have gh:=hid ((Gw.out.mono (S:=(· = r)) (fun _ _ e=>e.elim)).trans Hd (fun _ _ e=>e))
 have z0:=Gd.cell 0
 have z1:=Gd.cell 1
 have z2:=Gd.cell 2
 have y0:=Gd.free 0
 have y1:=Gd.free 1
 have y2:=Gd.free 2
 have zl:=Gd.lt
 have mr:=hid Gd
 clear Gd Hj Hd
 go_wp2_with fail
 obtain⟨q0,q1,q2⟩:=QMb mr.out (.int .i64 0) (.slice none 0 0) (.string ⟨#[]⟩)
 unfold QHe at q0 q1 q2
 exact bodyPost_ret (v:=.agg #[.int .i64 0,.slice none 0 0,.string ⟨#[]⟩]) (by simp[results,Tryz.results130,go_sem,q0,q1,q2]) rfl ⟨Qab gh.out (.inl (Nat.le_refl _)) _ _ _,by rw[HP.out];exact⟨⟨0,[],⟨#[]⟩⟩,_,rfl,Qfa.none _ _,QZc HA.out kn _ _ _⟩⟩
theorem Qeh(L:List Tok)(n i:Nat)(acc:List QJb):Q1b L (n+1) i acc=if isK L i 4 [62]=true then .ok (i+1,acc)else match Qgg L i with
 | .error e=>.error e
 | .ok (j,c)=>Q1b L n j (acc++[c]):=by
 rw[Q1b]
 unfold Qgg
 split
 ·rfl
 ·split
  ·split <;> rfl
  ·split <;> rfl
theorem Qqc{L:List Tok}{i:Nat}{s:List UInt8}(hs:s≠[])(h:isK L i 4 s=true):(tkN L i).kind=4∧(tkN L i).text=s:=by
 unfold isK at h
 have cy:s.isEmpty=false:=by simpa using hs
 rw[cy,Bool.false_or,Bool.and_eq_true,decide_eq_true_eq,decide_eq_true_eq]at h
 exact h
theorem Qom{L:List Tok}{i:Nat}{s t:List UInt8}(hs:s≠[])(ht:t≠[])(h:isK L i 4 s=true)(Hn:s≠t):isK L i 4 t=false:=by
 obtain⟨_,h2⟩:=Qqc hs h
 have cy:t.isEmpty=false:=by simpa using ht
 unfold isK
 rw[cy,Bool.false_or,h2,decide_eq_false Hn,Bool.and_false]
theorem Qpo(w:World)(r base:Nat)(file:Int)(L:List Tok)(lv ov:Value)(i:Nat)(D:List Qwa)(h:Q4a w r base file L lv ov i D) :
 Calls Tryz.prog 143 #[.pointer (some ⟨r,0,none⟩)] w (fun e w'=>∃(x1:Int) (x2:ByteArray),e = .returned (.agg #[.int .i64 x1,.string x2])∧Qaa (· = r) w w'∧match Qgg L i with
  | .ok (j,c)=>c=⟨x1,x2⟩∧Q4a w' r base file L lv ov j D
  | .error (k,c)=>QIb w' r file L k c):=by
 refine(Q6p w r base file L lv ov i D h).mono ?_
 intro e w' ho
 unfold Qri at ho
 cases hc:Qgg L i with
 | ok p=>
  obtain⟨j,c⟩:=p
  rw[hc]at ho
  exact⟨_,_,ho.2.1,ho.1,rfl,ho.2.2⟩
 | error p=>
  obtain⟨k,c⟩:=p
  rw[hc]at ho
  exact⟨_,_,ho.2.1,ho.1,ho.2.2⟩
theorem Q9o{L:List Tok}(ho:LOk L){i j:Nat}{c:QJb}(hi:i<L.length)(h:Qgg L i = .ok (j,c)):i<j:=by
 unfold Qgg at h
 split at h
 ·split at h
  ·injection h with h;injection h with h _;omega
  ·cases h
 ·split at h
  ·cases h
  ·rename_i h2
   obtain⟨k,e,h3,_⟩:=Qtf ho hi (by simpa using h2)
   injection h with h;injection h with h _
   rw[e]at h
   omega
theorem Qdl{w w6 w8:World}{r base:Nat}{file:Int}{L:List Tok}{lv ov cv v8 z0 z1 z2 b1:Value}{D:List Qwa}{i j nn B2:Nat}{acc:List QJb}{x1:Int}{x2:ByteArray}{o:Obj}{RR:Rs (Nat × List QJb)}(hh:Q4a w r base file L lv ov i D)(hj:j<L.length)
 (hM:match Qgg L j with
  | .ok (j,c)=>c=⟨x1,x2⟩∧Q4a w6 r base file L lv ov j D
  | .error (k,c)=>QIb w6 r file L k c)
 (hS:(match Qgg L j with
  | .error e=>.error e
  | .ok (j,c)=>Q1b L nn j (acc++[c]))=RR)
 (hN:L.length+1≤j+(nn+1)∧acc.length≤j∧i≤j) (hO8:Qca w8 B2 #[.int .i64 1,b1,.string ⟨#[]⟩] 75) (hZ6:Qca w6 w.heap.size #[z0,z1,z2] 75) (hR6:Qfa w6 w.heap.size cv acc) (Ku:Qaa (· = r) w w6)
 (GZ:w8.ownsRow w.heap.size 72 2 v8 (acc.length+1) (QCb acc++[.int .i64 x1,.string x2])) (Hb:(w6.alloc o).grownBy w8 cv.ownBlock) (km:w.heap.size+1≤B2) (kn:w.heap.size≠r) (JO:B2≠r) :
 ∃(acc:List QJb) (cv:Value),Hid (Qca (w8.setCell ⟨B2,1,none⟩ v8) B2 #[.int .i64 1,cv,.string ⟨#[]⟩] 75)∧Hid (Qca (w8.setCell ⟨B2,1,none⟩ v8) w.heap.size #[z0,z1,z2] 75)∧Hid (Qfa (w8.setCell ⟨B2,1,none⟩ v8) w.heap.size cv acc)∧Hid (Qaa (· = r) w (w8.setCell ⟨B2,1,none⟩ v8))∧
 ((∃j,Hid (Q4a (w8.setCell ⟨B2,1,none⟩ v8) r base file L lv ov j D)∧Hid (Q1b L nn j acc=RR)∧Hid (L.length+1≤j+nn∧acc.length≤j∧i≤j))∨(∃k c,Hid (RR = .error (k,c))∧Hid (QIb (w8.setCell ⟨B2,1,none⟩ v8) r file L k c))):=by
 have Mx:=fun(b:Nat) (xs:Array Value) (t:TypeId) (hx:Qca w6 b xs t) (Hn:t≠72)=>(hx.alloc o).grown Hb (Qua hR6 hx Hn)
 have Ml:Qaa (· = r) w (w8.setCell ⟨B2,1,none⟩ v8):=((Ku.alloc o).grown Hb (fun g hg=>by have:=(Qpa hR6 hg).2.1;left;omega)).setCell (p:=⟨B2,1,none⟩) (.inl (by show w.heap.size≤B2;omega)) v8
 have KQ:Qfa w8 w.heap.size v8 (acc++[⟨x1,x2⟩]):=by
  unfold Qfa
  rw[Qid,List.length_append]
  exact GZ
 have kY:=Qba KQ ((Qaa.refl (· = B2) w8).setCell (p:=⟨B2,1,none⟩) (.inr rfl) v8) (fun g hg e=>by cases e;exact Qua KQ hO8 (by decide) hg)
 have fI:=(Mx _ _ _ hZ6 (by decide)).other ⟨B2,1,none⟩ v8 (by show w.heap.size≠B2;omega)
 refine⟨acc++[(⟨x1,x2⟩:QJb)],v8,hid (hO8.set 1 v8),hid fI,hid kY,hid Ml,?_⟩
 cases hc:Qgg L j with
 | ok q=>
  obtain⟨j2,c⟩:=q
  rw[hc]at hM hS
  obtain⟨rfl,ha⟩:=hM
  have Hh:=Q9o hh.ok hj hc
  refine .inl ⟨j2,hid (hh.turn Ml ((Mx _ _ _ ha.holds (by decide)).other ⟨B2,1,none⟩ v8 (Ne.symm JO)) ha.lt (by omega)),hid hS,hid ⟨by omega,by simp;omega,by omega⟩⟩
 | error q=>
  obtain⟨k,c⟩:=q
  rw[hc]at hM hS
  obtain⟨h0,lv',x',ov',hx⟩:=hM
  exact .inr ⟨k,c,hid hS.symm,hid ⟨h0,lv',x',ov',(Mx _ _ _ hx (by decide)).other ⟨B2,1,none⟩ v8 (Ne.symm JO)⟩⟩
set_option maxRecDepth 100000 in
theorem Q3h(w:World)(r base:Nat)(file:Int)(L:List Tok)(lv ov:Value)(i:Nat)(D:List Qwa)(h:Q4a w r base file L lv ov i D)(hc:isK L i 4 [60]=true) :
 Calls Tryz.prog 130 #[.pointer (some ⟨r,0,none⟩)] w (Quc r base file L lv ov D (Qsb L i) w):=by
 obtain⟨c0,c1,c2,c3,_,_,_,f1,f2,f3,_,_,_,cl⟩:=h.cells
 obtain⟨n1,n2⟩:=h.num
 have Hu:=fun wx hx=>QZb wx r base file L lv ov i D hx 4 [91] (by decide)
 have gz:=fun wx hx=>QZb wx r base file L lv ov i D hx 4 [60] (by decide)
 rw[Qom (by decide) (by decide) hc (by decide:([60]:List UInt8)≠[91])]at Hu
 rw[hc]at gz
 have KC:=hid Hu
 have Mi:=hid gz
 have HH:=hid h
 obtain⟨Hr,_⟩:=Qqc (by decide) hc
 have gU:=hid (h.ok.next h.lt (by rw[Hr];decide))
 have HP:=hid (show Qsb L i=match Q1b L (Qgb L) (i+1) []with
  | .ok (j,cs)=>.ok (j,⟨1,cs,⟨#[]⟩⟩)
  | .error e=>.error e from by unfold Qsb;rw[if_neg (by rw[Hr];decide),if_neg (by rw[Hr];decide),if_pos hc];rfl)
 obtain⟨g,cap,rfl,hg,d0,_⟩:=h.toks.at h.lt
 have gl:g<w.heap.size:=World.block_lt_of_cell? w _ d0
 have Ki:=Qca.new w #[.int .i64 0,.slice none 0 0,.string ⟨#[]⟩] 75
 have my:Qaa (fun _=>False) w (w.alloc (.cells #[.int .i64 0,.slice none 0 0,.string ⟨#[]⟩] 75)):=(Qaa.refl _ w).alloc _
 have Jg:=hid Ki
 have K0:=hid my
 have kn:w.heap.size≠r:=by omega
 rw[Hr]at d0
 clear h Hr hc Hu gz Ki my
 go_enter Tryz.func130,Tryz.ntmps130
 go_wp2_with fail
 go_quiet (fail)
 go_wp2_with fail
 go_quiet (fail)
 go_wp2_with fail
 refine(by exact KC.out _ (HH.out.keeps (K0.out.drewN _)):Calls _ _ _ _ _).mono ?_
 rintro e w1 ⟨rfl,Ht⟩
 have g9:=(K0.out.drewN _).trans Ht (fun _ _ e=>e)
 have eY:=hid ((Jg.out.drewN _).keeps Ht (fun e=>e))
 have Gj:=hid g9
 clear g9 Ht
 go_wp2_with fail
 refine(by exact Mi.out _ (HH.out.keeps Gj.out):Calls _ _ _ _ _).mono ?_
 rintro e w2 ⟨rfl,Hp⟩
 have mq:=hid (eY.out.keeps Hp (fun e=>e))
 have Gw:=hid (Gj.out.trans Hp (fun _ _ e=>e))
 have h2:=HH.out.keeps Gw.out
 have H2:=hid h2
 obtain⟨_,v1,_,v3,_,_,_,u1,_,_,_,_,_,vl⟩:=h2.cells
 clear Hp h2
 go_wp2_with fail
 obtain⟨gy,gB⟩:=H2.out.step gU.out
 have hO:=Qca.newAt (B:=w2.heap.size) (w:=w2.setCell ⟨r,1,none⟩ (.int .i64 ((i:Int)+1))) (by simp) #[.int .i64 1,.slice none 0 0,.string ⟨#[]⟩] 75
 have ka:=(Qaa.refl (fun _=>False) (w2.setCell ⟨r,1,none⟩ (.int .i64 ((i:Int)+1)))).alloc (.cells #[.int .i64 1,.slice none 0 0,.string ⟨#[]⟩] 75)
 have JM:=gy.keeps ka
 have Gd:=(mq.out.keeps gB kn).keeps ka (fun e=>e)
 have Hd:=((Gw.out.mono (S:=(· = r)) (fun _ _ e=>e.elim)).trans gB (fun _ _ e=>e)).trans (ka.mono (S:=(· = r)) (fun _ _ e=>e.elim)) (fun _ _ e=>e)
 have hwl:=Gw.out.size
 have iL:=mq.out.lt
 generalize (w2.setCell ⟨r,1,none⟩ (.int .i64 ((i:Int)+1))).alloc (.cells #[.int .i64 1,.slice none 0 0,.string ⟨#[]⟩] 75)=w4 at *
 obtain⟨B2,km⟩:∃b,b=w2.heap.size:=⟨_,rfl⟩
 rw[←km]at hO iL
 rw[←km]
 have JO:B2≠r:=by omega
 have sC:w.heap.size+1≤B2:=by omega
 have uf:=hid hO
 have lD:=hid JM
 have mr:=hid Gd
 have gh:=hid Hd
 have GM:=HH.out.size
 obtain⟨RR,He⟩:∃RR,RR=Q1b L (Qgb L) (i+1) []:=⟨_,rfl⟩
 rw[←He]at HP
 have KD:=hid He
 clear gy gB ka JM hO Gd Hd km He KC Mi H2 mq Gw eY Gj v1 v3 u1 vl c1 c2 c3 d0 c0
 go_loopg [] (Qgb L) (fun f wr=>∃(acc:List QJb) (cv:Value),Hid (Qca wr B2 #[.int .i64 1,cv,.string ⟨#[]⟩] 75)∧Hid (Qca wr w.heap.size #[.int .i64 0,.slice none 0 0,.string ⟨#[]⟩] 75)∧Hid (Qfa wr w.heap.size cv acc)∧Hid (Qaa (· = r) w wr)∧
  ((∃j,Hid (Q4a wr r base file L (.slice (some ⟨g,0,none⟩) L.length cap) ov j D)∧Hid (Q1b L f j acc=RR)∧Hid (L.length+1≤j+f∧acc.length≤j∧i≤j))∨(∃k c,Hid (RR = .error (k,c))∧Hid (QIb wr r file L k c))))
 case atStart=>exact⟨[],_,uf,mr,hid (Qfa.none _ _),gh,.inl ⟨i+1,lD,hid KD.out.symm,hid (by unfold Qgb;simp <;> omega)⟩⟩
 case round=>
  obtain⟨acc,cv,HO,HZ,HR,HK,KK⟩:=hrel
  clear uf mr gh lD
  rcases KK with⟨j,HA,HS,HN⟩|⟨k,c,HE,HB⟩
  ·obtain⟨_,d1,_,d3,_,_,_,u1,_,_,_,_,_,dl⟩:=HA.out.cells
   have jj:=HN.out
   have di:=HA.out.lt
   have xF:=HA.out.ok.len
   have mp:=hid (fun wx hx=>QZb wx r base file L (.slice (some ⟨g,0,none⟩) L.length cap) ov j D hx 4 [62] (by decide))
   cases hg:isK L j 4 [62]with
   | true=>
    rw[hg]at mp
    obtain⟨nn,Mo⟩:∃nn,nn+1=gk:=⟨gk-1,by omega⟩
    have hS:=HS.out
    rw[←Mo,Qeh,if_pos hg]at hS
    have Hg:=hid hS.symm
    have gA:=hid (fun wx hx=>Qtb wx r base file L (.slice (some ⟨g,0,none⟩) L.length cap) ov j D hx [62] (by decide))
    have HG:=hid hg
    clear hS hg Mo
    go_wp2_with fail
    refine(by exact mp.out _ HA.out:Calls _ _ _ _ _).mono ?_
    rintro e w5 ⟨rfl,Hs⟩
    have MQ:=hid (HA.out.keeps Hs)
    have lZ:=hid (HO.out.keeps Hs (fun e=>e))
    have mE:=hid (HZ.out.keeps Hs (fun e=>e))
    have Ja:=hid (HR.out.keeps Hs (QLa.nil _))
    have kb:=hid (HK.out.trans Hs (fun _ _ e=>e.elim))
    clear Hs
    go_wp2_with fail
    refine(by exact gA.out _ MQ.out:Calls _ _ _ _ _).mono ?_
    rintro e w6 ⟨rfl,Hz,ht,_⟩
    have k9:=hid (ht HG.out)
    obtain⟨va,vc,rfl⟩:=Qia Ja.out
    have aV:=lZ.out.keeps Hz JO
    have Gl:=mE.out.keeps Hz kn
    have mB:=hid (Ja.out.keeps Hz (QLa.one MQ.out.holds (by decide) (by decide) (by decide)))
    have gH:=hid (kb.out.trans Hz (fun _ _ e=>e))
    have o0:=aV.cell 0
    have o1:=aV.cell 1
    have o2:=aV.cell 2
    have ol:=aV.lt
    have z0:=Gl.cell 0
    have z1:=Gl.cell 1
    have z2:=Gl.cell 2
    have y0:=Gl.free 0
    have y1:=Gl.free 1
    have y2:=Gl.free 2
    have zl:=Gl.lt
    have dM:=hid Gl
    clear aV Gl ht Hz
    go_wp2_with fail
    obtain⟨q0,q1,q2⟩:=QMb dM.out (.int .i64 1) (.slice va acc.length vc) (.string ⟨#[]⟩)
    have Hc:=Qfa.lower (Qba mB.out (Qab (Qaa.refl (· = w.heap.size) w6) (.inr rfl) (.int .i64 1) (.slice va acc.length vc) (.string ⟨#[]⟩)) (fun g hg e=>by cases e;exact Qua mB.out dM.out (by decide) hg)) GM
    unfold QHe at q0 q1 q2
    exact bodyPost_ret (v:=.agg #[.int .i64 1,.slice va acc.length vc,.string ⟨#[]⟩]) (by simp[results,Tryz.results130,go_sem,q0,q1,q2]) rfl ⟨Qab gH.out (.inl (Nat.le_refl _)) _ _ _,by rw[HP.out,Hg.out];exact⟨_,rfl,Hc,Q4h HH.out k9.out (by have:=HN.out;omega) gH.out kn _ _ _⟩⟩
   | false=>
    rw[hg]at mp
    obtain⟨nn,Mo⟩:∃nn,nn+1=gk:=⟨gk-1,by omega⟩
    have hS:=HS.out
    rw[←Mo,Qeh,if_neg (by rw[hg];exact Bool.false_ne_true)]at hS
    have JA:=hid hS
    have j8:=hid Mo
    clear hS hg Mo
    go_wp2_with fail
    refine(by exact mp.out _ HA.out:Calls _ _ _ _ _).mono ?_
    rintro e w5 ⟨rfl,Hs⟩
    have MQ:=hid (HA.out.keeps Hs)
    have lZ:=hid (HO.out.keeps Hs (fun e=>e))
    have mE:=hid (HZ.out.keeps Hs (fun e=>e))
    have Ja:=hid (HR.out.keeps Hs (QLa.nil _))
    have kb:=hid (HK.out.trans Hs (fun _ _ e=>e.elim))
    clear Hs
    obtain⟨va,vc,rfl⟩:=Qia Ja.out
    have o1:=lZ.out.cell 1
    have ol:=lZ.out.lt
    have cC:=hid (fun wx hx=>Qpo wx r base file L (.slice (some ⟨g,0,none⟩) L.length cap) ov j D hx)
    have cu:acc.length≤10000:=by have:=HN.out;omega
    have sN:w.heap.size≤w5.heap.size:=kb.out.size
    obtain⟨i0,hi,GE,GF,GA⟩:=info_parts QRh
    go_wp2_with fail
    go_region_law (first | (go_simp;go_at_call 143;refine(by exact cC.out _ (by exact MQ.out.keeps ((Qaa.refl _ _).drew)):Calls _ _ _ _ _).mono ?_;rintro e w6 ⟨x1,x2,rfl,Hz,lr⟩;have K2:=hid lr;clear lr;have MJ:=((Qaa.refl (fun _=>False) w5).drew);have gO:=((MJ.mono (S:=(· = r)) (fun _ _ e=>e.elim)).trans Hz (fun _ _ e=>e));have l4:=hid (lZ.out.keeps gO JO);have dM:=hid (mE.out.keeps gO kn);have mB:=hid (Ja.out.keeps gO (QLa.one MQ.out.holds (by decide) (by decide) (by decide)));have gH:=hid (kb.out.trans gO (fun _ _ e=>e));have hbz6:w.heap.size≤w6.heap.size:=gH.out.size;have o16:=l4.out.cell 1;have of16:=l4.out.free 1;have ol6:=l4.out.lt;clear MJ gO Hz) | (refine step_append_lies _ (by rfl) _ _ _ (by rfl) w.heap.size 72 i0 _ 2 24 Tryz.underlying73 hi GE GF GA rfl (by omega) _ acc.length (QCb acc) (by rfl) (World.ownsRow.alloc mB.out (.cells #[.int .i64 x1,.string x2] 72)) ⟨w6.heap.size,0,none⟩ 1 1 [.int .i64 x1,.string x2] (by rfl) (by rfl) (World.news_of_block (cs:=#[.int .i64 x1,.string x2]) (t:=72) (fr:=(0,0)) (heap_alloc_new w6 _)) (by simp[Value.oneCell']) (by omega) (by unfold maxLen;omega) (by omega) (by simp;omega) (w6.heap.size+1) (by simp) ?_;intro gg cap2 w8 GZ Hb Gg dj;have pW:=hid ((l4.out.alloc (.cells #[.int .i64 x1,.string x2] 72)).grown Hb (Qua mB.out l4.out (by decide)));have o18:=pW.out.cell 1;have of18:=pW.out.free 1;have ol8:=pW.out.lt))
    all_goals
     have jJ:=Qdl HH.out HA.out.lt K2.out JA.out (by have h1:=HN.out;have h2:=j8.out;omega) pW.out dM.out mB.out gH.out GZ Hb sC kn JO
     have qa:=hid jJ
     clear jJ GZ Hb Gg o18 of18 o16 of16
     go_wp2_with fail
     go_roundg nn
     case measure=>have:=j8.out;omega
     case rel=>exact qa.out
  ·obtain⟨Km,lv',x',ov',hH⟩:=HB.out
   have b3:=hH.cell 3
   have bl:=hH.lt
   have aa:(c == 0)=false:=by rw[beq_eq_false_iff_ne];exact Km
   clear hH Km
   go_wp2_with fail
   refine(by exact Qqa wr r file L k c HB.out ⟨#[62]⟩:Calls _ _ _ _ _).mono ?_
   rintro e w5 ⟨rfl,rfl⟩
   obtain⟨va,vc,rfl⟩:=Qia HR.out
   have aV:=HO.out
   have Gl:=HZ.out
   have o0:=aV.cell 0
   have o1:=aV.cell 1
   have o2:=aV.cell 2
   have ol:=aV.lt
   have z0:=Gl.cell 0
   have z1:=Gl.cell 1
   have z2:=Gl.cell 2
   have y0:=Gl.free 0
   have y1:=Gl.free 1
   have y2:=Gl.free 2
   have zl:=Gl.lt
   clear aV Gl
   go_wp2_with fail
   obtain⟨q0,q1,q2⟩:=QMb HZ.out (.int .i64 1) (.slice va acc.length vc) (.string ⟨#[]⟩)
   have Hc:=Qfa.lower (Qba HR.out (Qab (Qaa.refl (· = w.heap.size) wr) (.inr rfl) (.int .i64 1) (.slice va acc.length vc) (.string ⟨#[]⟩)) (fun g hg e=>by cases e;exact Qua HR.out HZ.out (by decide) hg)) GM
   unfold QHe at q0 q1 q2
   exact bodyPost_ret (v:=.agg #[.int .i64 1,.slice va acc.length vc,.string ⟨#[]⟩]) (by simp[results,Tryz.results130,go_sem,q0,q1,q2]) rfl ⟨Qab HK.out (.inl (Nat.le_refl _)) _ _ _,by rw[HP.out,HE.out];exact⟨⟨1,acc,⟨#[]⟩⟩,_,rfl,Hc,QZc HB.out kn _ _ _⟩⟩
theorem Qcl{w w5 w8:World}{r base:Nat}{file:Int}{L:List Tok}{lv ov cv v8 z0 z1 z2:Value}{D:List Qwa}{i j:Nat}{acc:List UInt8}{vv:Int}{o:Obj}(hh:Q4a w r base file L lv ov i D)(GV:i≤j)(ha:Q4a w5 r base file L lv ov j D)(hj:j+1<L.length)
 (KV:Qca w5 w.heap.size #[z0,z1,z2] 75) (hR5:w5.ownsRow w.heap.size 5 1 cv acc.length (Lib.byteCells acc)) (GL:Qaa (· = r) w w5)
 (GZ:w8.ownsRow w.heap.size 5 1 v8 (acc.length+1) (Lib.byteCells acc++[.int .u8 (vv % 256)])) {q:Nat} (Hb:((w5.drewN q).alloc o).grownBy w8 cv.ownBlock) (kn:w.heap.size≠r) :
 (w8.cell? ⟨r,1,none⟩=some (.int .i64 j)∧w8.frozen? ⟨r,1,none⟩=false∧r<w8.heap.size)∧Qca (w8.setCell ⟨r,1,none⟩ (.int .i64 ((j:Int)+1))) w.heap.size #[z0,z1,z2] 75∧
 (w8.setCell ⟨r,1,none⟩ (.int .i64 ((j:Int)+1))).ownsRow w.heap.size 5 1 v8 (acc++[(vv % 256).toNat.toUInt8]).length (Lib.byteCells (acc++[(vv % 256).toNat.toUInt8]))∧Qaa (· = r) w (w8.setCell ⟨r,1,none⟩ (.int .i64 ((j:Int)+1)))∧
 Q4a (w8.setCell ⟨r,1,none⟩ (.int .i64 ((j:Int)+1))) r base file L lv ov (j+1) D:=by
 have Mx:=fun(b:Nat) (xs:Array Value) (t:TypeId) (hx:Qca w5 b xs t) (Hn:t≠5)=>((hx.drewN q).alloc o).grown Hb (Qua hR5 hx Hn)
 have nK:=Mx _ _ _ ha.holds (by decide)
 have kf:=(Qaa.refl (· = r) w8).setCell (p:=⟨r,1,none⟩) (.inr rfl) (.int .i64 ((j:Int)+1))
 have jA:Qaa (· = r) w w8:=((GL.drewN q).alloc o).grown Hb (fun g hg=>by have:=(Qpa hR5 hg).2.1;left;omega)
 have Ml:=jA.trans kf (fun _ _ e=>e)
 have KQ:w8.ownsRow w.heap.size 5 1 v8 (acc++[(vv % 256).toNat.toUInt8]).length (Lib.byteCells (acc++[(vv % 256).toNat.toUInt8])):=by
  rw[Qui,List.length_append]
  exact GZ
 have kY:=Qba KQ kf (fun g hg e=>by cases e;exact Qua KQ nK (by decide) hg)
 have e1:(j:Int)+1=((j+1:Nat):Int):=by omega
 have jN:=nK.set 1 (.int .i64 ((j:Int)+1))
 exact⟨⟨nK.cell 1,nK.free 1,nK.lt⟩,(Mx _ _ _ KV (by decide)).keeps kf kn,kY,Ml,hh.turn Ml (by rw[←e1];exact jN) hj (by omega)⟩
set_option maxRecDepth 100000 in
theorem Q2h(w:World)(r base:Nat)(file:Int)(L:List Tok)(lv ov:Value)(i:Nat)(D:List Qwa)(h:Q4a w r base file L lv ov i D)(hc:isK L i 4 [91]=true) :
 Calls Tryz.prog 130 #[.pointer (some ⟨r,0,none⟩)] w (Quc r base file L lv ov D (Qsb L i) w):=by
 obtain⟨c0,c1,c2,c3,_,_,_,f1,f2,f3,_,_,_,cl⟩:=h.cells
 obtain⟨n1,n2⟩:=h.num
 have Hu:=fun wx hx=>QZb wx r base file L lv ov i D hx 4 [91] (by decide)
 rw[hc]at Hu
 have KC:=hid Hu
 have HH:=hid h
 obtain⟨Hr,_⟩:=Qqc (by decide) hc
 have gU:=hid (h.ok.next h.lt (by rw[Hr];decide))
 have HP:=hid (show Qsb L i=match Q8c L (Qgb L) (i+1) []with
  | .ok (j,b)=>.ok (j,⟨3,[],⟨b.toArray⟩⟩)
  | .error e=>.error e from by unfold Qsb;rw[if_neg (by rw[Hr];decide),if_neg (by rw[Hr];decide),if_neg (by rw[Qom (by decide) (by decide) hc (by decide:([91]:List UInt8)≠[60])];exact Bool.false_ne_true),if_pos hc];rfl)
 obtain⟨g,cap,rfl,hg,d0,_⟩:=h.toks.at h.lt
 have gl:g<w.heap.size:=World.block_lt_of_cell? w _ d0
 have Ki:=Qca.new w #[.int .i64 0,.slice none 0 0,.string ⟨#[]⟩] 75
 have my:Qaa (fun _=>False) w (w.alloc (.cells #[.int .i64 0,.slice none 0 0,.string ⟨#[]⟩] 75)):=(Qaa.refl _ w).alloc _
 have Jg:=hid Ki
 have K0:=hid my
 have kn:w.heap.size≠r:=by omega
 rw[Hr]at d0
 clear h Hr hc Hu Ki my
 go_enter Tryz.func130,Tryz.ntmps130
 go_wp2_with fail
 go_quiet (fail)
 go_wp2_with fail
 go_quiet (fail)
 go_wp2_with fail
 refine(by exact KC.out _ (HH.out.keeps (K0.out.drewN _)):Calls _ _ _ _ _).mono ?_
 rintro e w1 ⟨rfl,Ht⟩
 have g9:=(K0.out.drewN _).trans Ht (fun _ _ e=>e)
 have eY:=hid ((Jg.out.drewN _).keeps Ht (fun e=>e))
 have Gj:=hid g9
 clear g9 Ht
 have h2:=HH.out.keeps Gj.out
 have H2:=hid h2
 obtain⟨_,v1,_,v3,_,_,_,u1,_,_,_,_,_,vl⟩:=h2.cells
 clear h2
 go_wp2_with fail
 obtain⟨gy,gB⟩:=H2.out.step gU.out
 have Gd:=eY.out.keeps gB kn
 have Hd:=(Gj.out.mono (S:=(· = r)) (fun _ _ e=>e.elim)).trans gB (fun _ _ e=>e)
 have lD:=hid gy
 have mr:=hid Gd
 have gh:=hid Hd
 have GM:=HH.out.size
 obtain⟨RR,He⟩:∃RR,RR=Q8c L (Qgb L) (i+1) []:=⟨_,rfl⟩
 rw[←He]at HP
 have KD:=hid He
 generalize w1.setCell ⟨r,1,none⟩ (.int .i64 ((i:Int)+1))=w4 at *
 clear gy gB Gd Hd He KC H2 eY Gj v1 v3 u1 vl c1 c2 c3 d0 c0
 go_loopg [3] (Qgb L) (fun f x wr=>∃(acc:List UInt8) (j:Nat),Hid (Qca wr w.heap.size #[.int .i64 0,.slice none 0 0,.string ⟨#[]⟩] 75)∧Hid (wr.ownsRow w.heap.size 5 1 x acc.length (Lib.byteCells acc))∧Hid (Qaa (· = r) w wr)∧
  Hid (Q4a wr r base file L (.slice (some ⟨g,0,none⟩) L.length cap) ov j D)∧Hid (Q8c L f j acc=RR)∧Hid (L.length+1≤j+f∧acc.length≤j∧i≤j))
 case atStart=>exact⟨[],i+1,mr,hid (World.ownsRow_nil _ _ _ _),gh,lD,hid KD.out.symm,hid (by unfold Qgb;simp <;> omega)⟩
 case round=>
  obtain⟨acc,j,HZ,HR,HK,HA,HS,HN⟩:=hrel
  clear mr gh lD
  have jj:=HN.out
  have di:=HA.out.lt
  have xF:=HA.out.ok.len
  obtain⟨d1,d2,d3,d4,_,_,_,e1,e2,e3,_,_,_,dl⟩:=HA.out.cells
  obtain⟨g2,cap2,he,_,t0,_,t2,_⟩:=HA.out.toks.at di
  cases he
  obtain⟨nn,Mo⟩:∃nn,nn+1=gk:=⟨gk-1,by omega⟩
  have hS:=HS.out
  rw[←Mo,Q8c]at hS
  have j8:=hid Mo
  have glr:g<wr.heap.size:=World.block_lt_of_cell? wr _ t0
  have qD:(j:Int)<(L.length:Int):=by omega
  have hjJ:(j:Int)<10000:=by omega
  clear Mo
  by_cases hk:(tkN L j).kind=2
  ·have pd:isK L j 4 [93]=false:=by unfold isK;rw[hk];rfl
   rw[pd,if_neg Bool.false_ne_true,if_neg (by rw[hk];decide)]at hS
   rw[hk]at t0
   have cK:=hid (HA.out.ok.next di (by rw[hk];decide))
   generalize (tkN L j).value=vv at *
   clear hk pd
   by_cases hv:255<vv
   ·rw[if_pos hv]at hS
    have HE:=hid hS.symm
    clear hS
    go_wp2_with fail
    go_quiet (fail)
    go_wp2_with fail
    go_quiet (fail)
    go_wp2_with fail
    refine(by exact QNb _ r base file L (.slice (some ⟨g,0,none⟩) L.length cap) ov j D (HA.out.keeps (Qda _ _)) 2 (by decide):Calls _ _ _ _ _).mono ?_
    rintro e w6 ⟨rfl,Hj,Hz⟩
    have M9:=((Qda wr _).mono (S:=(· = r)) (fun _ _ e=>e.elim)).trans Hz (fun _ _ e=>e)
    have Gl:=HZ.out.keeps M9 kn
    have mB:=hid (Qba HR.out M9 (fun g hg e=>by cases e;exact Qua HR.out HA.out.holds (by decide) hg))
    have gH:=hid (HK.out.trans M9 (fun _ _ e=>e))
    have HB:=hid Hj
    have JD:=Qxe mB.out
    obtain⟨va,vc,rfl⟩:=Qia mB.out
    have z0:=Gl.cell 0
    have z1:=Gl.cell 1
    have z2:=Gl.cell 2
    have y0:=Gl.free 0
    have y1:=Gl.free 1
    have y2:=Gl.free 2
    have zl:=Gl.lt
    have dM:=hid Gl
    clear Gl Hj M9 Hz
    go_wp2_with fail
    refine(by exact Qqa w6 r file L j 2 HB.out ⟨#[93]⟩:Calls _ _ _ _ _).mono ?_
    rintro e w7 ⟨rfl,rfl⟩
    go_wp2_with fail
    obtain⟨q0,q1,q2⟩:=QMb dM.out (.int .i64 3) (.slice none 0 0) (.string ⟨acc.toArray⟩)
    unfold QHe at q0 q1 q2
    exact bodyPost_ret (v:=.agg #[.int .i64 3,.slice none 0 0,.string ⟨acc.toArray⟩]) (by simp[results,Tryz.results130,go_sem,q0,q1,q2]) rfl ⟨Qab gH.out (.inl (Nat.le_refl _)) _ _ _,by rw[HP.out,HE.out];exact⟨⟨3,[],⟨acc.toArray⟩⟩,_,rfl,Qfa.none _ _,QZc HB.out kn _ _ _⟩⟩
   ·rw[if_neg hv]at hS
    have JA:=hid hS
    clear hS
    have qL:vv≤255:=by omega
    go_wp2_with fail
    go_quiet (fail)
    go_wp2_with fail
    go_quiet (fail)
    go_wp2_with fail
    generalize kH:wr.drewN _=w5
    have Hs:Qaa (fun _=>False) wr w5:=by rw[←kH];exact Qda _ _
    have MQ:=hid (HA.out.keeps Hs)
    obtain⟨b0,b1,_,b3,_,_,_,a1,_,a3,_,_,_,bl⟩:=MQ.out.cells
    have t25:=(Hs.cell (p:=⟨g,j*6+2,none⟩) glr (fun e=>e)).trans t2
    have gl5:g<w5.heap.size:=Nat.lt_of_lt_of_le glr Hs.size
    have mE:=hid (HZ.out.keeps Hs (fun e=>e))
    have Ja:=hid (Qba HR.out Hs (fun _ _ e=>e))
    have kb:=hid (HK.out.trans Hs (fun _ _ e=>e.elim))
    have hbz5:w.heap.size≤w5.heap.size:=kb.out.size
    have cu:acc.length≤10000:=by have:=HN.out;omega
    clear kH Hs
    obtain⟨va,vc,rfl⟩:=Qia Ja.out
    obtain⟨i0,hi,GE,GF,GA⟩:=info_parts QKi
    go_region_law (refine step_append_lies _ (by rfl) _ _ _ (by rfl) w.heap.size 5 i0 _ 1 1 Tryz.underlying76 hi GE GF GA rfl (by omega) _ acc.length (Lib.byteCells acc) (by rfl) (World.ownsRow.alloc (show w5.drew.ownsRow w.heap.size 5 1 _ acc.length (Lib.byteCells acc)from Ja.out) (.cells #[.int .u8 (vv % 256)] 5)) ⟨w5.heap.size,0,none⟩ 1 1 [.int .u8 (vv % 256)] (by rfl) (by rfl) (World.news_of_block (cs:=#[.int .u8 (vv % 256)]) (t:=5) (fr:=(0,0)) (heap_alloc_new w5.drew _)) (by simp[Value.oneCell']) (by omega) (by unfold maxLen;omega) (by omega) (by simp;omega) (w5.heap.size+1) (by simp) ?_;intro gg cap2 w8 GZ Hb Gg dj)
    all_goals
     obtain⟨⟨p1,p2,p3⟩,T1,T2,T3,T4⟩:=Qcl HH.out (by have:=HN.out;omega) MQ.out cK.out mE.out Ja.out kb.out GZ Hb kn
     have TT1:=hid T1
     have TT2:=hid T2
     have TT3:=hid T3
     have TT4:=hid T4
     clear T1 T2 T3 T4 GZ Hb Gg
     go_wp2_with fail
     go_roundg nn
     case measure=>have:=j8.out;omega
     case rel=>exact⟨_,j+1,TT1,TT2,TT3,TT4,JA,hid (by have h1:=HN.out;have h2:=j8.out;simp;omega)⟩
  ·have kR:((tkN L j).kind == 2)=false:=by rw[beq_eq_false_iff_ne];exact hk
   rw[if_pos hk]at hS
   have gA:=hid (fun wx hx=>Qtb wx r base file L (.slice (some ⟨g,0,none⟩) L.length cap) ov j D hx [93] (by decide))
   have JA:=hid hS
   generalize (tkN L j).kind=kd at *
   clear hk hS
   go_wp2_with fail
   go_quiet (fail)
   go_wp2_with fail
   refine(by exact gA.out _ (HA.out.keeps (Qda _ _)):Calls _ _ _ _ _).mono ?_
   rintro e w6 ⟨rfl,Hz,ht,hf⟩
   have M9:=((Qda wr _).mono (S:=(· = r)) (fun _ _ e=>e.elim)).trans Hz (fun _ _ e=>e)
   have Gl:=HZ.out.keeps M9 kn
   have mB:=hid (Qba HR.out M9 (fun g hg e=>by cases e;exact Qua HR.out HA.out.holds (by decide) hg))
   have gH:=hid (HK.out.trans M9 (fun _ _ e=>e))
   have HT:=hid (And.intro ht hf)
   have JD:=Qxe mB.out
   obtain⟨va,vc,rfl⟩:=Qia mB.out
   have z0:=Gl.cell 0
   have z1:=Gl.cell 1
   have z2:=Gl.cell 2
   have y0:=Gl.free 0
   have y1:=Gl.free 1
   have y2:=Gl.free 2
   have zl:=Gl.lt
   have dM:=hid Gl
   clear Gl ht hf M9 Hz
   go_wp2_with fail
   obtain⟨q0,q1,q2⟩:=QMb dM.out (.int .i64 3) (.slice none 0 0) (.string ⟨acc.toArray⟩)
   unfold QHe at q0 q1 q2
   cases hg:isK L j 4 [93]with
   | true=>
    have e1:=JA.out
    rw[hg,if_pos rfl]at e1
    exact bodyPost_ret (v:=.agg #[.int .i64 3,.slice none 0 0,.string ⟨acc.toArray⟩]) (by simp[results,Tryz.results130,go_sem,q0,q1,q2]) rfl ⟨Qab gH.out (.inl (Nat.le_refl _)) _ _ _,by rw[HP.out,←e1];exact⟨_,rfl,Qfa.none _ _,Q4h HH.out (HT.out.1 hg) (by have:=HN.out;omega) gH.out kn _ _ _⟩⟩
   | false=>
    have e1:=JA.out
    rw[hg,if_neg Bool.false_ne_true]at e1
    exact bodyPost_ret (v:=.agg #[.int .i64 3,.slice none 0 0,.string ⟨acc.toArray⟩]) (by simp[results,Tryz.results130,go_sem,q0,q1,q2]) rfl ⟨Qab gH.out (.inl (Nat.le_refl _)) _ _ _,by rw[HP.out,←e1];exact⟨⟨3,[],⟨acc.toArray⟩⟩,_,rfl,Qfa.none _ _,QZc (HT.out.2 hg) kn _ _ _⟩⟩
theorem Q7p(w:World)(r base:Nat)(file:Int)(L:List Tok)(lv ov:Value)(i:Nat)(D:List Qwa)(h:Q4a w r base file L lv ov i D) :
 Calls Tryz.prog 130 #[.pointer (some ⟨r,0,none⟩)] w (Quc r base file L lv ov D (Qsb L i) w):=by
 by_cases h3:(tkN L i).kind=3
 ·exact QXj w r base file L lv ov i D h h3
 ·by_cases h6:(tkN L i).kind=6
  ·by_cases hb:Qra (tkN L i).text=true
   ·exact QWj w r base file L lv ov i D h h6 hb
   ·exact Q7g w r base file L lv ov i D h h6 hb
  ·cases hc:isK L i 4 [60]with
   | true=>exact Q3h w r base file L lv ov i D h hc
   | false=>
    cases hb:isK L i 4 [91]with
    | true=>exact Q2h w r base file L lv ov i D h hb
    | false=>exact Q2i w r base file L lv ov i D h h3 h6 hb hc
set_option maxRecDepth 100000 in
theorem Q8a(w:World)(r:Nat)(file:Int)(L:List Tok)(k:Nat)(c:Int)(h:QIb w r file L k c)(a0:Int)(a1 a2:ByteArray)(x:Option Addr)(n m:Nat)(a4 a5 a6:Int) :
 Calls Tryz.prog 64 #[.pointer (some ⟨r,0,none⟩),.agg #[.int .i64 a0,.string a1,.string a2,.slice x n m,.int .i64 a4,.int .i64 a5,.int .i64 a6]] w fun e w'=>e = .returned (.tuple #[])∧QIb w' r file L k c∧Qaa (fun _=>False) w w':=by
 have HH:=hid h
 obtain⟨h0,lv,x,ov,hH⟩:=h
 have c3:=hH.cell 3
 have cl:=hH.lt
 have hb:(c == 0)=false:=by rw[beq_eq_false_iff_ne];exact h0
 clear hH h0
 go_enter Tryz.func64,Tryz.ntmps64
 go_wp2_with fail
 go_end0
 exact⟨rfl,HH.out.keeps ((Qaa.refl (fun _=>False) w).alloc _) (fun e=>e),(Qaa.refl (fun _=>False) w).alloc _⟩
set_option maxRecDepth 100000 in
theorem Qoc(w:World)(r:Nat)(file:Int)(L:List Tok)(k:Nat)(c:Int)(h:QIb w r file L k c)(d:Nat)(hd:(d:Int)≤1000000) :
 Calls Tryz.prog 66 #[.pointer (some ⟨r,0,none⟩),.int .i64 (d:Int)] w fun e w'=>e = .returned (.tuple #[])∧w=w':=by
 have HT:=hid (fun s=>Qqa w r file L k c h s)
 obtain⟨h0,lv,x,ov,hH⟩:=h
 have c3:=hH.cell 3
 have cl:=hH.lt
 have hb:(c == 0)=false:=by rw[beq_eq_false_iff_ne];exact h0
 clear hH h0
 go_enter Tryz.func66,Tryz.ntmps66
 go_wp2_with fail
 refine(by exact HT.out ⟨#[123]⟩:Calls _ _ _ _ _).mono ?_
 rintro e w1 ⟨rfl,rfl⟩
 go_wp2_with fail
 go_loopg [] 1 (fun f wr=>w=wr)
 case atStart=>rfl
 case round=>
  obtain rfl:=hrel
  go_wp2_with fail
  refine(by exact HT.out ⟨#[125]⟩:Calls _ _ _ _ _).mono ?_
  rintro e w1 ⟨rfl,rfl⟩
  go_wp2_with fail
  go_end0
  exact⟨rfl,rfl⟩
theorem Qqb(w:World)(r base:Nat)(file:Int)(L:List Tok)(lv ov:Value)(i:Nat)(D:List Qwa)(d:Qwa)(pv:Value)(h:Q4a w r base file L lv ov i D)(hp:Qha w base pv d.parts)(hc:D.length≤2*i) :
 Calls Tryz.prog 64 #[.pointer (some ⟨r,0,none⟩),QXb file d pv] w fun e w'=>e = .returned (.tuple #[])∧∃ov',Q4a w' r base file L lv ov' i (D++[d])∧Below base w w':=by
 have KA:=h.ok.len
 have KW:=h.lt
 refine(QZq w r base file lv (.int .i64 i) ov D d pv ⟨h.holds,h.defs,h.low,h.size⟩ hp (by omega)).mono ?_
 rintro e w' ⟨rfl,ov',hr,hk⟩
 have gS:∀b,(b=r∨ov.ownBlock=some b)→base≤b:=by
  rintro b (rfl|hb)
  ·exact h.low
  ·obtain⟨_,_,Hc,_⟩:=h.defs
   exact(Qpa Hc hb).2.1
 have hb:Below base w w':=hk.below h.size (fun b Hf Ho=>by have:=gS b Ho;omega)
 refine⟨rfl,ov',⟨hr.1,h.toks.keeps hk gS,hr.2.1,h.low,Nat.le_trans h.size hk.size,h.lt,h.ok,?_⟩,hb⟩
 rw[List.length_append]
 simp
 omega
def Q9b(r base:Nat)(file:Int)(L:List Tok)(lv:Value)(D:List Qwa)(R:Rs (Nat × List Qwa))(w:World)(e:Ending)(w':World):Prop:=
 e = .returned (.tuple #[])∧Below base w w'∧match R with
  | .ok (j,ds)=>∃ov,Q4a w' r base file L lv ov j (D++ds)∧D.length+ds.length≤2*j
  | .error (k,c)=>QIb w' r file L k c
set_option maxRecDepth 100000 in
theorem Q5g(w:World)(r base:Nat)(file:Int)(L:List Tok)(lv ov:Value)(i:Nat)(D:List Qwa)(h:Q4a w r base file L lv ov i D)(dp:Nat)(mF:(dp:Int)≤1000000)(hk:(tkN L i).kind=7)(h1:isK L i 7 [100,101,108,101,116,101,45,112,114,111,112,101,114,116,121]=false)(h2:isK L i 7 [100,101,108,101,116,101,45,110,111,100,101]=false) :
 Calls Tryz.prog 109 #[.pointer (some ⟨r,0,none⟩),.int .i64 (dp:Int)] w (Q9b r base file L lv D (.error (i,6)) w):=by
 obtain⟨c0,c1,c2,c3,_,_,_,f1,f2,f3,_,_,_,cl⟩:=h.cells
 obtain⟨n1,n2⟩:=h.num
 have Hu:=fun wx hx=>QZb wx r base file L lv ov i D hx 7 [100,101,108,101,116,101,45,112,114,111,112,101,114,116,121] (by decide)
 have gz:=fun wx hx=>QZb wx r base file L lv ov i D hx 7 [100,101,108,101,116,101,45,110,111,100,101] (by decide)
 rw[h1]at Hu
 rw[h2]at gz
 have KC:=hid Hu
 have Mi:=hid gz
 have HF:=hid (fun wx hx=>QNb wx r base file L lv ov i D hx 6 (by decide))
 have HH:=hid h
 obtain⟨g,cap,rfl,hg,d0,d1,d2,d3,d4,d5⟩:=h.toks.at h.lt
 have gl:g<w.heap.size:=World.block_lt_of_cell? w _ d0
 rw[hk]at d0
 generalize (tkN L i).line=tl at *
 generalize (tkN L i).col=tc at *
 have hN:=Qca.new w #[.int .i64 0,.int .i64 0,.int .i64 0] 27
 have Hl:Below w.heap.size w (w.alloc (.cells #[.int .i64 0,.int .i64 0,.int .i64 0] 27)):=(Below.refl _ _).alloc (Nat.le_refl _) _
 have c0':=(Hl.cell cl).trans c0
 have c1':=(Hl.cell cl).trans c1
 have d3':=(Hl.cell gl).trans d3
 have d4':=(Hl.cell gl).trans d4
 have d5':=(Hl.cell gl).trans d5
 obtain⟨m0,m1,m2,mf0,mf1,mf2,ml⟩:=three hN
 have hM:=(Qca.new w #[.int .i64 file,.int .i64 tl,.int .i64 tc] 27).drew
 have Hd:Qaa (fun _=>False) w (w.alloc (.cells #[.int .i64 file,.int .i64 tl,.int .i64 tc] 27)).drew:=((Qaa.refl _ w).alloc _).drew
 have h3:=h.keeps Hd
 obtain⟨x0,x1,x2,_,_,_,xl⟩:=three hM
 obtain⟨y0,y1,_,y3,_,_,_,z1,_,z3,_,_,_,yl⟩:=h3.cells
 have e0:=(Hd.cell (p:=⟨g,i*6,none⟩) gl (fun e=>e)).trans d0
 have gl3:=Nat.lt_of_lt_of_le gl Hd.size
 have H3:=hid h3
 have gh:=hid Hd
 have HM:=hid hM
 clear h hk h1 h2 Hu gz hN Hl hM Hd h3
 go_enter Tryz.func109,Tryz.ntmps109
 go_wp2_with fail
 go_region
 generalize (w.alloc (.cells #[.int .i64 file,.int .i64 tl,.int .i64 tc] 27)).drew=w3 at *
 go_wp2_with fail
 go_quiet (fail)
 go_wp2_with fail
 refine(by exact KC.out _ (H3.out.keeps (Qda _ _)):Calls _ _ _ _ _).mono ?_
 rintro e w4 ⟨rfl,Hr⟩
 have gQ:=hid ((Qda w3 _).trans Hr (fun _ _ e=>e))
 clear Hr
 go_wp2_with fail
 refine(by exact Mi.out _ (H3.out.keeps gQ.out):Calls _ _ _ _ _).mono ?_
 rintro e w5 ⟨rfl,Hs⟩
 have kb:=hid (gQ.out.trans Hs (fun _ _ e=>e))
 clear Hs
 go_wp2_with fail
 refine(by exact HF.out _ (H3.out.keeps kb.out):Calls _ _ _ _ _).mono ?_
 rintro e w6 ⟨rfl,Hj,Hz⟩
 have HB:=hid Hj
 have gH:=hid (((gh.out.trans kb.out (fun _ _ e=>e)).mono (S:=(· = r)) (fun _ _ e=>e.elim)).trans Hz (fun _ _ e=>e))
 clear Hj Hz
 go_wp2_with fail
 refine(by exact Qqa w6 r file L i 6 HB.out ⟨#[59]⟩:Calls _ _ _ _ _).mono ?_
 rintro e w7 ⟨rfl,rfl⟩
 go_wp2_with fail
 refine bodyPost_ret (results_none rfl _ _ _) rfl ?_
 exact⟨rfl,gH.out.below HH.out.size (fun b hb e=>by cases e;have:=HH.out.low;omega),HB.out⟩
theorem Qhc{L:List Tok}{kind:Int}{f:List UInt8→Bool}{i j:Nat}(h:Qja L kind f i = .ok j):j=i+1:=by
 unfold Qja at h
 split at h
 ·split at h
  ·injection h with h;exact h.symm
  ·cases h
 ·cases h
theorem QIh{L:List Tok}{kind what:Int}{b:List UInt8}{f:List UInt8→Bool}{i j:Nat}(h:Qja L what f (i+1) = .ok j)(hs:isK L j 4 [59]=true):QVd L kind what b f i = .ok (j+1,[⟨kind,⟨#[]⟩,⟨(b++(tkN L (i+1)).text).toArray⟩,[],(tkN L i).line,(tkN L i).col⟩]):=by
 have Hk:Qwb L [59] j = .ok (j+1):=by unfold Qwb;rw[if_pos hs]
 unfold QVd
 simp only[h,Hk]
theorem QVf{L:List Tok}{kind what:Int}{b:List UInt8}{f:List UInt8→Bool}{i j:Nat}(h:Qja L what f (i+1) = .ok j)(hs:isK L j 4 [59]=false):QVd L kind what b f i = .error (j,6):=by
 have Hk:Qwb L [59] j = .error (j,6):=by unfold Qwb;rw[if_neg (by rw[hs];exact Bool.false_ne_true)]
 unfold QVd
 simp only[h,Hk]
theorem QWf{L:List Tok}{kind what:Int}{b:List UInt8}{f:List UInt8→Bool}{i:Nat}{q:Nat × Int}(h:Qja L what f (i+1) = .error q):QVd L kind what b f i = .error q:=by
 unfold QVd
 simp only[h]
set_option maxRecDepth 100000 in
theorem Q0g(w:World)(r base:Nat)(file:Int)(L:List Tok)(lv ov:Value)(i:Nat)(D:List Qwa)(h:Q4a w r base file L lv ov i D)(dp:Nat)(mF:(dp:Int)≤1000000)(hk:(tkN L i).kind=7)(h1:isK L i 7 [100,101,108,101,116,101,45,112,114,111,112,101,114,116,121]=true)(kF:D.length≤2*i) :
 Calls Tryz.prog 109 #[.pointer (some ⟨r,0,none⟩),.int .i64 (dp:Int)] w (Q9b r base file L lv D (QVd L 4 1 [] Q5b i) w):=by
 obtain⟨c0,c1,c2,c3,_,_,_,f1,f2,f3,_,_,_,cl⟩:=h.cells
 obtain⟨n1,n2⟩:=h.num
 have Hu:=fun wx hx=>QZb wx r base file L lv ov i D hx 7 [100,101,108,101,116,101,45,112,114,111,112,101,114,116,121] (by decide)
 have GK:=hid (fun wx hx=>Q6h wx r base file L lv ov (i+1) D hx 1 (by decide))
 have gU:=hid (h.ok.next h.lt (by rw[hk];decide))
 rw[h1]at Hu
 have KC:=hid Hu
 have HF:=hid (fun wx hx=>QNb wx r base file L lv ov i D hx 6 (by decide))
 have HH:=hid h
 obtain⟨g,cap,rfl,hg,d0,d1,d2,d3,d4,d5⟩:=h.toks.at h.lt
 have gl:g<w.heap.size:=World.block_lt_of_cell? w _ d0
 rw[hk]at d0
 obtain⟨tl,H7⟩:∃t,t=(tkN L i).line:=⟨_,rfl⟩
 obtain⟨tc,Gb⟩:∃t,t=(tkN L i).col:=⟨_,rfl⟩
 rw[←H7]at d4
 rw[←Gb]at d5
 have KF:=hid H7
 have KE:=hid Gb
 clear H7 Gb
 have hN:=Qca.new w #[.int .i64 0,.int .i64 0,.int .i64 0] 27
 have Hl:Below w.heap.size w (w.alloc (.cells #[.int .i64 0,.int .i64 0,.int .i64 0] 27)):=(Below.refl _ _).alloc (Nat.le_refl _) _
 have c0':=(Hl.cell cl).trans c0
 have c1':=(Hl.cell cl).trans c1
 have d3':=(Hl.cell gl).trans d3
 have d4':=(Hl.cell gl).trans d4
 have d5':=(Hl.cell gl).trans d5
 obtain⟨m0,m1,m2,mf0,mf1,mf2,ml⟩:=three hN
 have hM:=(Qca.new w #[.int .i64 file,.int .i64 tl,.int .i64 tc] 27).drew
 have Hd:Qaa (fun _=>False) w (w.alloc (.cells #[.int .i64 file,.int .i64 tl,.int .i64 tc] 27)).drew:=((Qaa.refl _ w).alloc _).drew
 have h3:=h.keeps Hd
 obtain⟨x0,x1,x2,_,_,_,xl⟩:=three hM
 obtain⟨y0,y1,_,y3,_,_,_,z1,_,z3,_,_,_,yl⟩:=h3.cells
 have e0:=(Hd.cell (p:=⟨g,i*6,none⟩) gl (fun e=>e)).trans d0
 have gl3:=Nat.lt_of_lt_of_le gl Hd.size
 have H3:=hid h3
 have gh:=hid Hd
 have HM:=hid hM
 clear h hk h1 Hu hN Hl hM Hd h3
 go_enter Tryz.func109,Tryz.ntmps109
 go_wp2_with fail
 go_region
 generalize (w.alloc (.cells #[.int .i64 file,.int .i64 tl,.int .i64 tc] 27)).drew=w3 at *
 go_wp2_with fail
 go_quiet (fail)
 go_wp2_with fail
 refine(by exact KC.out _ (H3.out.keeps (Qda _ _)):Calls _ _ _ _ _).mono ?_
 rintro e w4 ⟨rfl,Hr⟩
 have gQ:=hid ((Qda w3 _).trans Hr (fun _ _ e=>e))
 clear Hr
 have h4:=H3.out.keeps gQ.out
 have H4:=hid h4
 obtain⟨_,b1,_,b3,_,_,_,a1,_,_,_,_,_,bl⟩:=h4.cells
 have K8:=hid (HM.out.keeps gQ.out (fun e=>e))
 have je:=hid ((gh.out.trans gQ.out (fun _ _ e=>e)).mono (S:=(· = r)) (fun _ _ e=>e.elim))
 clear h4
 go_wp2_with fail
 obtain⟨gy,gB⟩:=H4.out.step gU.out
 have M0:=K8.out.keeps gB (by omega)
 obtain⟨p0,p1,p2,_,_,_,pl⟩:=three M0
 have H5:=hid gy
 have MU:=hid M0
 have aA:=hid (je.out.trans gB (fun _ _ e=>e))
 generalize w4.setCell ⟨r,1,none⟩ (.int .i64 ((i:Int)+1))=w5 at *
 clear gy gB M0 b1 b3 a1 bl
 obtain⟨T,hT⟩:∃T,T=Qja L 1 (QKa 2) (i+1):=⟨_,rfl⟩
 rw[←hT]at GK
 have MC:=hid hT
 clear hT
 cases T with
 | ok j=>
  have Kf:=hid (fun wx ovx (hx:Q4a wx r base file L (.slice (some ⟨g,0,none⟩) L.length cap) ovx j D) (X:ByteArray) (hj:i+1≤j)=>Qqb wx r base file L (.slice (some ⟨g,0,none⟩) L.length cap) ovx j D ⟨4,⟨#[]⟩,X,[],tl,tc⟩ (.slice none 0 0) hx (Qha.none _ _) (by omega))
  have Gr:j=i+2:=Qhc MC.out.symm
  have G2:w.heap.size≠r:=by omega
  go_region_with (first | (go_at_call 65;refine(by exact GK.out _ (by exact H5.out.keeps ((Qaa.refl _ _).drew)):Calls _ _ _ _ _).mono ?_;rintro e w6 ⟨Hz,rfl,kD⟩;have k9:=hid kD;have gO:=(((Qaa.refl (fun _=>False) w5).drew).mono (S:=(· = r)) (fun _ _ e=>e.elim)).trans Hz (fun _ _ e=>e);have me:=MU.out.keeps gO G2;obtain⟨q0,q1,q2,_,_,_,ql⟩:=three me;have gH:=hid (aA.out.trans gO (fun _ _ e=>e));clear kD Hz gO me) | (go_at_call 64;refine(by exact Kf.out _ _ k9.out _ (by omega):Calls _ _ _ _ _).mono ?_;rintro e w8 ⟨rfl,ov8,gY,G7⟩))
  all_goals
   have gA:=hid (Qtb w8 r base file L _ ov8 j _ gY [59] (by decide))
   have GS:=hid G7
   clear gY G7
   go_wp2_with fail
   refine(by exact gA.out:Calls _ _ _ _ _).mono ?_
   rintro e w9 ⟨rfl,G9,t1,t2⟩
   have Je:=hid (And.intro t1 t2)
   have Mr:=hid G9
   clear G9 t1 t2
   go_wp2_with fail
   refine bodyPost_ret (results_none rfl _ _ _) rfl ?_
   have gS:∀b,b<base→¬b=r:=fun b hb e=>by have:=HH.out.low;omega
   have gI:=((gH.out.below HH.out.size gS).trans GS.out).trans (Mr.out.below (Nat.le_trans HH.out.size (Nat.le_trans gH.out.size GS.out.size)) gS)
   refine⟨rfl,gI,?_⟩
   cases hg:isK L j 4 [59]with
   | true=>
    rw[show QVd L 4 1 [] Q5b i=_ from QIh MC.out.symm hg]
    refine⟨ov8,?_,by simp;omega⟩
    have h9:=Je.out.1 hg
    rw[KF.out,KE.out]at h9
    exact h9
   | false=>
    rw[show QVd L 4 1 [] Q5b i=_ from QVf MC.out.symm hg]
    exact Je.out.2 hg
 | error q=>
  obtain⟨k,c⟩:=q
  have G2:w.heap.size≠r:=by omega
  go_region_with (first | (go_at_call 65;refine(by exact GK.out _ (by exact H5.out.keeps ((Qaa.refl _ _).drew)):Calls _ _ _ _ _).mono ?_;rintro e w6 ⟨Hz,rfl,kD⟩;have k9:=hid kD;have gO:=(((Qaa.refl (fun _=>False) w5).drew).mono (S:=(· = r)) (fun _ _ e=>e.elim)).trans Hz (fun _ _ e=>e);have me:=MU.out.keeps gO G2;obtain⟨q0,q1,q2,_,_,_,ql⟩:=three me;have gH:=hid (aA.out.trans gO (fun _ _ e=>e));clear kD Hz gO me) | (go_at_call 64;refine(by exact Q8a _ r file L k c k9.out _ _ _ _ _ _ _ _ _:Calls _ _ _ _ _).mono ?_;rintro e w8 ⟨rfl,gY,gE⟩))
  all_goals
   have gA:=hid (Qqa w8 r file L k c gY ⟨#[59]⟩)
   have Kz:=hid (gH.out.trans (gE.mono (S:=(· = r)) (fun _ _ e=>e.elim)) (fun _ _ e=>e))
   have GG:=hid gY
   clear gY gE
   go_wp2_with fail
   refine(by exact gA.out:Calls _ _ _ _ _).mono ?_
   rintro e w9 ⟨rfl,rfl⟩
   go_wp2_with fail
   refine bodyPost_ret (results_none rfl _ _ _) rfl ?_
   refine⟨rfl,Kz.out.below HH.out.size (fun b hb e=>by have:=HH.out.low;omega),?_⟩
   rw[show QVd L 4 1 [] Q5b i=_ from QWf MC.out.symm]
   exact GG.out
set_option maxRecDepth 100000 in
theorem QZg(w:World)(r base:Nat)(file:Int)(L:List Tok)(lv ov:Value)(i:Nat)(D:List Qwa)(h:Q4a w r base file L lv ov i D)(dp:Nat)(mF:(dp:Int)≤1000000)(hk:(tkN L i).kind=7)(h1:isK L i 7 [100,101,108,101,116,101,45,112,114,111,112,101,114,116,121]=false)(h2:isK L i 7 [100,101,108,101,116,101,45,110,111,100,101]=true)(kF:D.length≤2*i) :
 Calls Tryz.prog 109 #[.pointer (some ⟨r,0,none⟩),.int .i64 (dp:Int)] w (Q9b r base file L lv D (QVd L 5 1 [] Q1a i) w):=by
 obtain⟨c0,c1,c2,c3,_,_,_,f1,f2,f3,_,_,_,cl⟩:=h.cells
 obtain⟨n1,n2⟩:=h.num
 have Hu:=fun wx hx=>QZb wx r base file L lv ov i D hx 7 [100,101,108,101,116,101,45,112,114,111,112,101,114,116,121] (by decide)
 have GK:=hid (fun wx hx=>Q5h wx r base file L lv ov (i+1) D hx 1 (by decide))
 have gU:=hid (h.ok.next h.lt (by rw[hk];decide))
 have gz:=fun wx hx=>QZb wx r base file L lv ov i D hx 7 [100,101,108,101,116,101,45,110,111,100,101] (by decide)
 rw[h1]at Hu
 rw[h2]at gz
 have Mi:=hid gz
 have KC:=hid Hu
 have HF:=hid (fun wx hx=>QNb wx r base file L lv ov i D hx 6 (by decide))
 have HH:=hid h
 obtain⟨g,cap,rfl,hg,d0,d1,d2,d3,d4,d5⟩:=h.toks.at h.lt
 have gl:g<w.heap.size:=World.block_lt_of_cell? w _ d0
 rw[hk]at d0
 obtain⟨tl,H7⟩:∃t,t=(tkN L i).line:=⟨_,rfl⟩
 obtain⟨tc,Gb⟩:∃t,t=(tkN L i).col:=⟨_,rfl⟩
 rw[←H7]at d4
 rw[←Gb]at d5
 have KF:=hid H7
 have KE:=hid Gb
 clear H7 Gb
 have hN:=Qca.new w #[.int .i64 0,.int .i64 0,.int .i64 0] 27
 have Hl:Below w.heap.size w (w.alloc (.cells #[.int .i64 0,.int .i64 0,.int .i64 0] 27)):=(Below.refl _ _).alloc (Nat.le_refl _) _
 have c0':=(Hl.cell cl).trans c0
 have c1':=(Hl.cell cl).trans c1
 have d3':=(Hl.cell gl).trans d3
 have d4':=(Hl.cell gl).trans d4
 have d5':=(Hl.cell gl).trans d5
 obtain⟨m0,m1,m2,mf0,mf1,mf2,ml⟩:=three hN
 have hM:=(Qca.new w #[.int .i64 file,.int .i64 tl,.int .i64 tc] 27).drew
 have Hd:Qaa (fun _=>False) w (w.alloc (.cells #[.int .i64 file,.int .i64 tl,.int .i64 tc] 27)).drew:=((Qaa.refl _ w).alloc _).drew
 have h3:=h.keeps Hd
 obtain⟨x0,x1,x2,_,_,_,xl⟩:=three hM
 obtain⟨y0,y1,_,y3,_,_,_,z1,_,z3,_,_,_,yl⟩:=h3.cells
 have e0:=(Hd.cell (p:=⟨g,i*6,none⟩) gl (fun e=>e)).trans d0
 have gl3:=Nat.lt_of_lt_of_le gl Hd.size
 have H3:=hid h3
 have gh:=hid Hd
 have HM:=hid hM
 clear h hk h1 h2 Hu gz hN Hl hM Hd h3
 go_enter Tryz.func109,Tryz.ntmps109
 go_wp2_with fail
 go_region
 generalize (w.alloc (.cells #[.int .i64 file,.int .i64 tl,.int .i64 tc] 27)).drew=w3 at *
 go_wp2_with fail
 go_quiet (fail)
 go_wp2_with fail
 refine(by exact KC.out _ (H3.out.keeps (Qda _ _)):Calls _ _ _ _ _).mono ?_
 rintro e w40 ⟨rfl,GX⟩
 have gC:=hid ((Qda w3 _).trans GX (fun _ _ e=>e))
 clear GX
 go_wp2_with fail
 refine(by exact Mi.out _ (H3.out.keeps gC.out):Calls _ _ _ _ _).mono ?_
 rintro e w4 ⟨rfl,Hr⟩
 have gQ:=hid (gC.out.trans Hr (fun _ _ e=>e))
 clear Hr
 have h4:=H3.out.keeps gQ.out
 have H4:=hid h4
 obtain⟨_,b1,_,b3,_,_,_,a1,_,_,_,_,_,bl⟩:=h4.cells
 have K8:=hid (HM.out.keeps gQ.out (fun e=>e))
 have je:=hid ((gh.out.trans gQ.out (fun _ _ e=>e)).mono (S:=(· = r)) (fun _ _ e=>e.elim))
 clear h4
 go_wp2_with fail
 obtain⟨gy,gB⟩:=H4.out.step gU.out
 have M0:=K8.out.keeps gB (by omega)
 obtain⟨p0,p1,p2,_,_,_,pl⟩:=three M0
 have H5:=hid gy
 have MU:=hid M0
 have aA:=hid (je.out.trans gB (fun _ _ e=>e))
 generalize w4.setCell ⟨r,1,none⟩ (.int .i64 ((i:Int)+1))=w5 at *
 clear gy gB M0 b1 b3 a1 bl
 obtain⟨T,hT⟩:∃T,T=Qja L 1 (QKa 1) (i+1):=⟨_,rfl⟩
 rw[←hT]at GK
 have MC:=hid hT
 clear hT
 cases T with
 | ok j=>
  have Kf:=hid (fun wx ovx (hx:Q4a wx r base file L (.slice (some ⟨g,0,none⟩) L.length cap) ovx j D) (X:ByteArray) (hj:i+1≤j)=>Qqb wx r base file L (.slice (some ⟨g,0,none⟩) L.length cap) ovx j D ⟨5,⟨#[]⟩,X,[],tl,tc⟩ (.slice none 0 0) hx (Qha.none _ _) (by omega))
  have Gr:j=i+2:=Qhc MC.out.symm
  have G2:w.heap.size≠r:=by omega
  go_region_with (first | (go_at_call 65;refine(by exact GK.out _ (by exact H5.out.keeps ((Qaa.refl _ _).drew)):Calls _ _ _ _ _).mono ?_;rintro e w6 ⟨Hz,rfl,kD⟩;have k9:=hid kD;have gO:=(((Qaa.refl (fun _=>False) w5).drew).mono (S:=(· = r)) (fun _ _ e=>e.elim)).trans Hz (fun _ _ e=>e);have me:=MU.out.keeps gO G2;obtain⟨q0,q1,q2,_,_,_,ql⟩:=three me;have gH:=hid (aA.out.trans gO (fun _ _ e=>e));clear kD Hz gO me) | (go_at_call 64;refine(by exact Kf.out _ _ k9.out _ (by omega):Calls _ _ _ _ _).mono ?_;rintro e w8 ⟨rfl,ov8,gY,G7⟩))
  all_goals
   have gA:=hid (Qtb w8 r base file L _ ov8 j _ gY [59] (by decide))
   have GS:=hid G7
   clear gY G7
   go_wp2_with fail
   refine(by exact gA.out:Calls _ _ _ _ _).mono ?_
   rintro e w9 ⟨rfl,G9,t1,t2⟩
   have Je:=hid (And.intro t1 t2)
   have Mr:=hid G9
   clear G9 t1 t2
   go_wp2_with fail
   refine bodyPost_ret (results_none rfl _ _ _) rfl ?_
   have gS:∀b,b<base→¬b=r:=fun b hb e=>by have:=HH.out.low;omega
   have gI:=((gH.out.below HH.out.size gS).trans GS.out).trans (Mr.out.below (Nat.le_trans HH.out.size (Nat.le_trans gH.out.size GS.out.size)) gS)
   refine⟨rfl,gI,?_⟩
   cases hg:isK L j 4 [59]with
   | true=>
    rw[show QVd L 5 1 [] Q1a i=_ from QIh MC.out.symm hg]
    refine⟨ov8,?_,by simp;omega⟩
    have h9:=Je.out.1 hg
    rw[KF.out,KE.out]at h9
    exact h9
   | false=>
    rw[show QVd L 5 1 [] Q1a i=_ from QVf MC.out.symm hg]
    exact Je.out.2 hg
 | error q=>
  obtain⟨k,c⟩:=q
  have G2:w.heap.size≠r:=by omega
  go_region_with (first | (go_at_call 65;refine(by exact GK.out _ (by exact H5.out.keeps ((Qaa.refl _ _).drew)):Calls _ _ _ _ _).mono ?_;rintro e w6 ⟨Hz,rfl,kD⟩;have k9:=hid kD;have gO:=(((Qaa.refl (fun _=>False) w5).drew).mono (S:=(· = r)) (fun _ _ e=>e.elim)).trans Hz (fun _ _ e=>e);have me:=MU.out.keeps gO G2;obtain⟨q0,q1,q2,_,_,_,ql⟩:=three me;have gH:=hid (aA.out.trans gO (fun _ _ e=>e));clear kD Hz gO me) | (go_at_call 64;refine(by exact Q8a _ r file L k c k9.out _ _ _ _ _ _ _ _ _:Calls _ _ _ _ _).mono ?_;rintro e w8 ⟨rfl,gY,gE⟩))
  all_goals
   have gA:=hid (Qqa w8 r file L k c gY ⟨#[59]⟩)
   have Kz:=hid (gH.out.trans (gE.mono (S:=(· = r)) (fun _ _ e=>e.elim)) (fun _ _ e=>e))
   have GG:=hid gY
   clear gY gE
   go_wp2_with fail
   refine(by exact gA.out:Calls _ _ _ _ _).mono ?_
   rintro e w9 ⟨rfl,rfl⟩
   go_wp2_with fail
   refine bodyPost_ret (results_none rfl _ _ _) rfl ?_
   refine⟨rfl,Kz.out.below HH.out.size (fun b hb e=>by have:=HH.out.low;omega),?_⟩
   rw[show QVd L 5 1 [] Q1a i=_ from QWf MC.out.symm]
   exact GG.out
theorem Q6g(n:Nat)(w:World)(r base:Nat)(file:Int)(L:List Tok)(lv ov:Value)(i:Nat)(D:List Qwa)(h:Q4a w r base file L lv ov i D)(dp:Nat)(mF:(dp:Int)≤1000000)(hk:(tkN L i).kind=7)(kF:D.length≤2*i) :
 Calls Tryz.prog 109 #[.pointer (some ⟨r,0,none⟩),.int .i64 (dp:Int)] w (Q9b r base file L lv D (Qxb L (n+1) (.member dp) i) w):=by
 have e:Qxb L (n+1) (.member dp) i=if isK L i 7 [100,101,108,101,116,101,45,112,114,111,112,101,114,116,121]=true then QVd L 4 1 [] Q5b i
  else if isK L i 7 [100,101,108,101,116,101,45,110,111,100,101]=true then QVd L 5 1 [] Q1a i
  else .error (i,6):=by
  rw[Qxb,if_neg (by rw[hk];decide),if_neg (by rw[hk];decide)]
 rw[e]
 cases h1:isK L i 7 [100,101,108,101,116,101,45,112,114,111,112,101,114,116,121]with
 | true=>
  rw[if_pos rfl]
  exact Q0g w r base file L lv ov i D h dp mF hk h1 kF
 | false=>
  rw[if_neg Bool.false_ne_true]
  cases h2:isK L i 7 [100,101,108,101,116,101,45,110,111,100,101]with
  | true=>
   rw[if_pos rfl]
   exact QZg w r base file L lv ov i D h dp mF hk h1 h2 kF
  | false=>
   rw[if_neg Bool.false_ne_true]
   exact Q5g w r base file L lv ov i D h dp mF hk h1 h2
set_option maxRecDepth 100000 in
theorem Q1h(w:World)(r base:Nat)(file:Int)(L:List Tok)(lv ov:Value)(i:Nat)(D:List Qwa)(h:Q4a w r base file L lv ov i D)(dp:Nat)(mF:(dp:Int)≤1000000)(h7:(tkN L i).kind≠7)(h5:(tkN L i).kind≠5)(h1:(tkN L i).kind≠1) :
 Calls Tryz.prog 109 #[.pointer (some ⟨r,0,none⟩),.int .i64 (dp:Int)] w (Q9b r base file L lv D (.error (i,6)) w):=by
 obtain⟨c0,c1,c2,c3,_,_,_,f1,f2,f3,_,_,_,cl⟩:=h.cells
 obtain⟨n1,n2⟩:=h.num
 have g7:((tkN L i).kind == 7)=false:=by rw[beq_eq_false_iff_ne];exact h7
 have g5:((tkN L i).kind == 5)=false:=by rw[beq_eq_false_iff_ne];exact h5
 have g1:((tkN L i).kind != 1)=true:=by rw[bne_iff_ne];exact h1
 have HF:=hid (fun wx hx=>QNb wx r base file L lv ov i D hx 6 (by decide))
 have HH:=hid h
 obtain⟨g,cap,rfl,hg,d0,d1,d2,d3,d4,d5⟩:=h.toks.at h.lt
 have gl:g<w.heap.size:=World.block_lt_of_cell? w _ d0
 generalize (tkN L i).kind=kd at *
 generalize (tkN L i).line=tl at *
 generalize (tkN L i).col=tc at *
 have hN:=Qca.new w #[.int .i64 0,.int .i64 0,.int .i64 0] 27
 have Hl:Below w.heap.size w (w.alloc (.cells #[.int .i64 0,.int .i64 0,.int .i64 0] 27)):=(Below.refl _ _).alloc (Nat.le_refl _) _
 have c0':=(Hl.cell cl).trans c0
 have c1':=(Hl.cell cl).trans c1
 have d3':=(Hl.cell gl).trans d3
 have d4':=(Hl.cell gl).trans d4
 have d5':=(Hl.cell gl).trans d5
 obtain⟨m0,m1,m2,mf0,mf1,mf2,ml⟩:=three hN
 have hM:=(Qca.new w #[.int .i64 file,.int .i64 tl,.int .i64 tc] 27).drew
 have Hd:Qaa (fun _=>False) w (w.alloc (.cells #[.int .i64 file,.int .i64 tl,.int .i64 tc] 27)).drew:=((Qaa.refl _ w).alloc _).drew
 have h3:=h.keeps Hd
 obtain⟨x0,x1,x2,_,_,_,xl⟩:=three hM
 obtain⟨y0,y1,_,y3,_,_,_,z1,_,z3,_,_,_,yl⟩:=h3.cells
 have e0:=(Hd.cell (p:=⟨g,i*6,none⟩) gl (fun e=>e)).trans d0
 have gl3:=Nat.lt_of_lt_of_le gl Hd.size
 have H3:=hid h3
 have gh:=hid Hd
 have HM:=hid hM
 clear h h7 h5 h1 hN Hl hM Hd h3
 go_enter Tryz.func109,Tryz.ntmps109
 go_wp2_with fail
 go_region
 generalize (w.alloc (.cells #[.int .i64 file,.int .i64 tl,.int .i64 tc] 27)).drew=w3 at *
 go_wp2_with fail
 go_quiet (fail)
 go_wp2_with fail
 go_quiet (fail)
 go_wp2_with fail
 go_quiet (fail)
 go_wp2_with fail
 refine(by exact HF.out _ (H3.out.keeps (Qda _ _)):Calls _ _ _ _ _).mono ?_
 rintro e w6 ⟨rfl,Hj,Hz⟩
 have HB:=hid Hj
 have gH:=hid (((gh.out.trans (Qda w3 _) (fun _ _ e=>e)).mono (S:=(· = r)) (fun _ _ e=>e.elim)).trans Hz (fun _ _ e=>e))
 clear Hj Hz
 go_wp2_with fail
 refine bodyPost_ret (results_none rfl _ _ _) rfl ?_
 exact⟨rfl,gH.out.below HH.out.size (fun b hb e=>by cases e;have:=HH.out.low;omega),HB.out⟩
def B4C(r base:Nat)(file:Int)(L:List Tok)(lv:Value)(n:Nat):Prop:=∀(w:World) (ov:Value) (i:Nat) (D:List Qwa) (d:Qwa) (dp:Nat),Q4a w r base file L lv ov i (D++[d])→D.length+1≤2*i→3*(L.length-i)≤n→dp≤100→
 Calls Tryz.prog 66 #[.pointer (some ⟨r,0,none⟩),.int .i64 (dp:Int)] w (Q9b r base file L lv D (Qxb L n (.body d dp) i) w)
def M4C(r base:Nat)(file:Int)(L:List Tok)(lv:Value)(n:Nat):Prop:=∀(w:World) (ov:Value) (i:Nat) (D:List Qwa) (dp:Nat),Q4a w r base file L lv ov i D→D.length≤2*i→3*(L.length-i)≤n→dp≤50→
 Calls Tryz.prog 109 #[.pointer (some ⟨r,0,none⟩),.int .i64 (dp:Int)] w (Q9b r base file L lv D (Qxb L n (.member dp) i) w)
set_option maxRecDepth 100000 in
theorem Q5p(r base:Nat)(file:Int)(L:List Tok)(lv:Value)(n:Nat)(hM:∀m,m≤n→M4C r base file L lv m):B4C r base file L lv (n+1):=by
 intro w ov i D d dp h kF hn mF
 have rE:=hid hM
 obtain⟨c0,c1,c2,c3,_,_,_,f1,f2,f3,_,_,_,cl⟩:=h.cells
 obtain⟨n1,n2⟩:=h.num
 have Mu:=fun wx hx=>QZb wx r base file L lv ov i (D++[d]) hx 4 [123] (by decide)
 have gA:=hid (fun wx hx=>Qtb wx r base file L lv ov i (D++[d]) hx [123] (by decide))
 have HF:=hid (fun wx hx=>QNb wx r base file L lv ov i (D++[d]) hx 3 (by decide))
 have HH:=hid h
 have fU:(dp:Int)≤100:=by omega
 have ox:(0:Int)≤(dp:Int):=by omega
 obtain⟨RR,He⟩:∃R,Qxb L (n+1) (.body d dp) i=R:=⟨_,rfl⟩
 rw[He]
 rw[Qxb]at He
 have gS:∀b,b<base→¬b=r:=fun b hb e=>by have:=h.low;omega
 have jS:=h.lt
 cases hy:isK L i 4 [123]with
 | true=>
  rw[hy,if_pos rfl]at He
  rw[hy]at Mu
  have mp:=hid Mu
  have gF:=h.ok.next h.lt (by rw[(Qqc (by decide) hy).1];decide)
  have HY:=hid hy
  by_cases h8:8<dp
  ·rw[if_pos h8]at He
   have nE:(8:Int)<(dp:Int):=by omega
   have KD:=hid He
   clear h hy Mu hM He h8
   go_enter Tryz.func66,Tryz.ntmps66
   go_wp2_with fail
   refine(by exact mp.out _ HH.out:Calls _ _ _ _ _).mono ?_
   rintro e w1 ⟨rfl,Ht⟩
   have Gj:=hid Ht
   clear Ht
   go_wp2_with fail
   refine(by exact HF.out _ (HH.out.keeps Gj.out):Calls _ _ _ _ _).mono ?_
   rintro e w2 ⟨rfl,Hj,Hp⟩
   have HB:=hid Hj
   have Gw:=hid ((Gj.out.mono (S:=(· = r)) (fun _ _ e=>e.elim)).trans Hp (fun _ _ e=>e))
   obtain⟨Km,lv',x',ov',hH⟩:=id Hj
   have b3:=hH.cell 3
   have bl:=hH.lt
   have GQ:=hid (fun s=>Qqa w2 r file L i 3 HB.out s)
   clear Hj Hp hH Km
   go_wp2_with fail
   refine(by exact GQ.out ⟨#[123]⟩:Calls _ _ _ _ _).mono ?_
   rintro e w3 ⟨rfl,rfl⟩
   go_wp2_with fail
   go_loopg [] 1 (fun f wr=>w2=wr)
   case atStart=>rfl
   case round=>
    obtain rfl:=hrel
    go_wp2_with fail
    refine(by exact GQ.out ⟨#[125]⟩:Calls _ _ _ _ _).mono ?_
    rintro e w4 ⟨rfl,rfl⟩
    go_wp2_with fail
    refine bodyPost_ret (results_none rfl _ _ _) rfl ?_
    exact⟨rfl,Gw.out.below HH.out.size gS,by rw[←KD.out];exact HB.out⟩
  ·rw[if_neg h8]at He
   have nE:¬(8:Int)<(dp:Int):=by omega
   have xj:decide ((8:Int)<(dp:Int))=false:=by simp;omega
   have xS:n+1≤n+1:=Nat.le_refl _
   have KD:=hid He
   clear h hy Mu hM He h8
   go_enter Tryz.func66,Tryz.ntmps66
   go_wp2_with fail
   refine(by exact mp.out _ HH.out:Calls _ _ _ _ _).mono ?_
   rintro e w1 ⟨rfl,Ht⟩
   have Gj:=hid Ht
   clear Ht
   go_wp2_with fail
   refine(by exact gA.out _ (HH.out.keeps Gj.out):Calls _ _ _ _ _).mono ?_
   rintro e w2 ⟨rfl,Hp,ht,_⟩
   have Mq:=hid (ht HY.out)
   have GI:=hid (((Gj.out.mono (S:=(· = r)) (fun _ _ e=>e.elim)).trans Hp (fun _ _ e=>e)).below HH.out.size gS)
   clear Hp ht
   go_wp2_with fail
   go_loopg [] n (fun f wr=>Hid (Below base w wr)∧((∃(j:Nat) (acc:List Qwa) (ov':Value),Hid (Qxb L f (.mems dp acc) j=RR)∧Hid (3*(L.length-j)+1≤f∧f≤n∧D.length+acc.length≤2*j∧j<L.length)∧Hid (Q4a wr r base file L lv ov' j (D++acc)))∨(∃k c,Hid (RR = .error (k,c))∧Hid (QIb wr r file L k c))))
   case atStart=>exact⟨GI,.inl ⟨i+1,[d],ov,KD,hid ⟨by omega,Nat.le_refl _,by simp;omega,gF⟩,Mq⟩⟩
   case round=>
    obtain⟨HB,⟨j,acc,ov',HS,HN,HA⟩|⟨k,c,HE,KY⟩⟩:=hrel
    ·obtain⟨f,hf⟩:∃f,gk=f+1:=⟨gk-1,by have:=HN.out;omega⟩
     have hS:=HS.out
     rw[hf,Qxb]at hS
     have hA:=HA.out
     obtain⟨a0,a1,a2,a3,_,_,_,g1,g2,g3,_,_,_,al⟩:=hA.cells
     obtain⟨m1,m2⟩:=hA.num
     have Mu:=QZb wr r base file L lv ov' j _ hA 4 [125] (by decide)
     have H9:=hid gS
     cases hk:isK L j 4 [125]with
     | true=>
      rw[hk,if_pos rfl]at hS
      rw[hk]at Mu
      have KZ:=hid Mu
      have HK:=hid hk
      have GJ:=hid hS
      obtain⟨tl,H7⟩:∃t,t=(tkN L j).line:=⟨_,rfl⟩
      obtain⟨tc,Gb⟩:∃t,t=(tkN L j).col:=⟨_,rfl⟩
      have KF:=hid H7
      have KE:=hid Gb
      clear hA Mu hk hS H7 Gb gS
      go_wp2_with fail
      refine(by exact KZ.out:Calls _ _ _ _ _).mono ?_
      rintro e w5 ⟨rfl,Hs⟩
      have kB:=HA.out.keeps Hs
      have MQ:=hid kB
      have Jw:=hid (HB.out.trans ((Hs.mono (S:=(· = r)) (fun _ _ e=>e.elim)).below HA.out.size H9.out))
      obtain⟨x0,x1,x2,x3,_,_,_,y1,y2,y3,_,_,_,xl⟩:=kB.cells
      obtain⟨g,cap,rfl,hg,d0,d1,d2,d3,d4,d5⟩:=kB.toks.at kB.lt
      have gl:g<w5.heap.size:=World.block_lt_of_cell? w5 _ d0
      rw[←KF.out]at d4
      rw[←KE.out]at d5
      have Kf:=hid (fun wx hx=>Qqb wx r base file L (.slice (some ⟨g,0,none⟩) L.length cap) ov' j (D++acc) ⟨2,⟨#[]⟩,⟨#[]⟩,[],tl,tc⟩ (.slice none 0 0) hx (Qha.none _ _) (by have:=HN.out;simp;omega))
      clear kB Hs
      go_wp2_with fail
      go_region_with ((go_at_call 64;refine(by exact Kf.out _ (MQ.out.keeps ((Qaa.refl _ _).drew)):Calls _ _ _ _ _).mono ?_;rintro e w6 ⟨rfl,ov6,kD,mw⟩))
      all_goals
       have rX:=hid (Qtb w6 r base file L _ ov6 j _ kD [125] (by decide))
       have jY:=hid mw
       have wM:=hid kD.size
       clear kD mw
       go_wp2_with fail
       refine(by exact rX.out:Calls _ _ _ _ _).mono ?_
       rintro e w7 ⟨rfl,Gs,vR,_⟩
       have jm:=hid (vR HK.out)
       have cf:=hid ((Jw.out.trans ((((Qaa.refl (fun _=>False) w5).drew).below MQ.out.size (fun _ _ e=>e)).trans jY.out)).trans (Gs.below wM.out H9.out))
       clear Gs vR
       go_wp2_with fail
       refine bodyPost_ret (results_none rfl _ _ _) rfl ?_
       refine⟨rfl,cf.out,?_⟩
       rw[←GJ.out]
       refine⟨ov6,?_,by have:=HN.out;simp;omega⟩
       have h9:=jm.out
       rw[List.append_assoc,KF.out,KE.out]at h9
       exact h9
     | false=>
      rw[hk,if_neg Bool.false_ne_true]at hS
      rw[hk]at Mu
      have KZ:=hid Mu
      have ub:=hid (fun wx hx=>rE.out f (by have:=HN.out;omega) wx ov' j (D++acc) dp hx (by have:=HN.out;rw[List.length_append];omega) (by have:=HN.out;omega) (by have:=fU;omega))
      have JA:=hid hS
      have pX:=hid (fun m ds h=>((QRg L f).2.2.1 dp j m ds h).1)
      obtain⟨MR,uX⟩:∃m,m=Qxb L f (.member dp) j:=⟨_,rfl⟩
      rw[←uX]at ub JA pX
      have rf:=hid hf
      clear hA Mu hk hS gS uX hf HS
      go_wp2_with fail
      refine(by exact KZ.out:Calls _ _ _ _ _).mono ?_
      rintro e w5 ⟨rfl,Hs⟩
      have MQ:=hid (HA.out.keeps Hs)
      have Jw:=hid (HB.out.trans ((Hs.mono (S:=(· = r)) (fun _ _ e=>e.elim)).below HA.out.size H9.out))
      clear Hs
      go_wp2_with fail
      refine(by exact ub.out _ MQ.out:Calls _ _ _ _ _).mono ?_
      rintro e w6 ⟨rfl,mw,lr⟩
      have jY:=hid (Jw.out.trans mw)
      clear mw
      cases MR with
      | ok q=>
       obtain⟨m,ds⟩:=q
       obtain⟨ov6,kD,oe⟩:=lr
       have k9:=hid kD
       have qZ:=hid oe
       have Hh:=pX.out _ _ rfl
       have Ms:=hid JA.out
       clear kD oe
       go_wp2_with fail
       go_roundg f
       case measure=>have:=rf.out;omega
       case rel=>exact⟨jY,.inl ⟨m,acc++ds,ov6,Ms,hid (by have:=HN.out;have:=rf.out;have h3:=qZ.out;rw[List.length_append]at h3 ⊢;have:=k9.out.lt;omega),hid (by rw[←List.append_assoc];exact k9.out)⟩⟩
      | error q=>
       obtain⟨m,c⟩:=q
       have KY:=hid lr
       have Ms:=hid JA.out
       clear lr
       go_wp2_with fail
       go_roundg f
       case measure=>have:=rf.out;omega
       case rel=>exact⟨jY,.inr ⟨m,c,hid Ms.out.symm,KY⟩⟩
    ·obtain⟨Km,lv',x',ov',hH⟩:=id KY.out
     have b3:=hH.cell 3
     have bl:=hH.lt
     have aa:(c == 0)=false:=by rw[beq_eq_false_iff_ne];exact Km
     have GQ:=hid (fun s=>Qqa wr r file L k c KY.out s)
     clear hH Km
     go_wp2_with fail
     refine(by exact GQ.out ⟨#[125]⟩:Calls _ _ _ _ _).mono ?_
     rintro e w4 ⟨rfl,rfl⟩
     go_wp2_with fail
     refine bodyPost_ret (results_none rfl _ _ _) rfl ?_
     exact⟨rfl,HB.out,by rw[HE.out];exact KY.out⟩
 | false=>
  rw[hy,if_neg Bool.false_ne_true]at He
  rw[hy]at Mu
  have mp:=hid Mu
  have HY:=hid hy
  have KD:=hid He
  clear h hy Mu hM He
  go_enter Tryz.func66,Tryz.ntmps66
  go_wp2_with fail
  refine(by exact mp.out _ HH.out:Calls _ _ _ _ _).mono ?_
  rintro e w1 ⟨rfl,Ht⟩
  have Gj:=hid Ht
  clear Ht
  go_wp2_with fail
  refine(by exact gA.out _ (HH.out.keeps Gj.out):Calls _ _ _ _ _).mono ?_
  rintro e w2 ⟨rfl,Hp,_,ht⟩
  have HB:=hid (ht HY.out)
  have Gw:=hid ((Gj.out.mono (S:=(· = r)) (fun _ _ e=>e.elim)).trans Hp (fun _ _ e=>e))
  obtain⟨Km,lv',x',ov',hH⟩:=id HB.out
  have b3:=hH.cell 3
  have bl:=hH.lt
  have GQ:=hid (fun s=>Qqa w2 r file L i 6 HB.out s)
  clear Hp hH Km ht
  go_wp2_with fail
  go_loopg [] 1 (fun f wr=>w2=wr)
  case atStart=>rfl
  case round=>
   obtain rfl:=hrel
   go_wp2_with fail
   refine(by exact GQ.out ⟨#[125]⟩:Calls _ _ _ _ _).mono ?_
   rintro e w4 ⟨rfl,rfl⟩
   go_wp2_with fail
   refine bodyPost_ret (results_none rfl _ _ _) rfl ?_
   exact⟨rfl,Gw.out.below HH.out.size gS,by rw[←KD.out];exact HB.out⟩
def QEb(w:World)(lo base:Nat)(v:Value)(ps:List QRa):Prop:=
 ∃vs:List Value,vs.length=ps.length∧w.ownsRow lo 75 3 v ps.length (QDa ps vs)∧∀k (h:k<ps.length) (h2:k<vs.length),Qfa w base vs[k] ps[k].cells
section
variable{w w':World}{lo base:Nat}{v:Value}{ps:List QRa}
theorem QEb.keeps{S:Nat→Prop}(h:QEb w lo base v ps)(k:Qaa S w w')(ha:QLa w S):QEb w' lo base v ps:=by
 obtain⟨vs,h1,h2,h3⟩:=h
 exact⟨vs,h1,Qba h2 k (Qvd h2 ha (.inr (.inl rfl))),fun j h h'=>(h3 j h h').keeps k ha⟩
theorem QEb.row(h:QEb w lo base v ps)(hb:base≤lo):Qha w base v ps:=by
 obtain⟨vs,h1,h2,h3⟩:=h
 exact⟨vs,h1,QMc h2 hb,h3⟩
theorem QEb.none(w:World)(lo base:Nat):QEb w lo base (.slice none 0 0) []:=by
 obtain⟨vs,h1,h2,h3⟩:=Qha.none w lo
 exact⟨vs,h1,h2,fun k h=>by simp at h⟩
theorem QEb.slice(h:QEb w lo base v ps):∃a c,v = .slice a ps.length c:=by obtain⟨_,_,h,_⟩:=h;exact Qia h
end
theorem QRk(w:World)(r base:Nat)(file:Int)(L:List Tok)(lv ov:Value)(i:Nat)(D:List Qwa)(h:Q4a w r base file L lv ov i D) :
 Calls Tryz.prog 130 #[.pointer (some ⟨r,0,none⟩)] w (fun e w'=>∃(p:QRa) (ca:Option Addr) (cc:Nat),e = .returned (.agg #[.int .i64 p.kind,.slice ca p.cells.length cc,.string p.text])∧Qfa w' base (.slice ca p.cells.length cc) p.cells∧Qaa (· = r) w w'∧match Qsb L i with
  | .ok (j,q)=>q=p∧Q4a w' r base file L lv ov j D
  | .error (k,c)=>QIb w' r file L k c):=by
 refine(Q7p w r base file L lv ov i D h).mono ?_
 intro e w' ho
 unfold Quc at ho
 cases hc:Qsb L i with
 | ok q=>
  obtain⟨j,p⟩:=q
  rw[hc]at ho
  obtain⟨hk,cv,e1,e2,e3⟩:=ho
  obtain⟨ca,cc,rfl⟩:=Qia e2
  exact⟨p,ca,cc,e1,e2,hk,rfl,e3⟩
 | error q=>
  obtain⟨k,c⟩:=q
  rw[hc]at ho
  obtain⟨hk,p,cv,e1,e2,e3⟩:=ho
  obtain⟨ca,cc,rfl⟩:=Qia e2
  exact⟨p,ca,cc,e1,e2,hk,e3⟩
def Qfi{α β:Type}(T:Rs α)(R:Rs β):Rs β:=match T with
 | .ok _=>R
 | .error e=>.error e
def QDc(L:List Tok)(R:Rs (Nat × List Qwa)):Rs (Nat × List Qwa):=match R with
 | .error e=>.error e
 | .ok (m,ds)=>match Qwb L [59] m with
  | .error e=>.error e
  | .ok q=>.ok (q,ds)
theorem QJc{L:List Tok}{m:Nat}{ds:List Qwa}(hs:isK L m 4 [59]=true):QDc L (.ok (m,ds)) = .ok (m+1,ds):=by
 have Hk:Qwb L [59] m = .ok (m+1):=by unfold Qwb;rw[if_pos hs]
 unfold QDc
 simp only[Hk]
theorem Qcc{L:List Tok}{m:Nat}{ds:List Qwa}(hs:isK L m 4 [59]=false):QDc L (.ok (m,ds)) = .error (m,6):=by
 have Hk:Qwb L [59] m = .error (m,6):=by unfold Qwb;rw[if_neg (by rw[hs];exact Bool.false_ne_true)]
 unfold QDc
 simp only[Hk]
theorem QEe{L:List Tok}{n dp i:Nat}(h1:(tkN L i).kind=1):Qxb L (n+1) (.member dp) i=QDc L (Qxb L n (.named dp) i):=by
 rw[Qxb,if_neg (by rw[h1];decide),if_pos h1]
 rfl
theorem Qnl{L:List Tok}{n dp i:Nat}(hb:isK L (i+1) 4 [123]=true):Qxb L (n+1) (.named dp) i=(if Q1a (tkN L i).text=true then Qxb L n (.body ⟨1,⟨#[]⟩,txN L i,[],(tkN L i).line,(tkN L i).col⟩ (dp+1)) (i+1)else .error (i,1)):=by
 rw[Qxb,if_pos hb]
theorem QRi{L:List Tok}{n dp i:Nat}(h5:(tkN L i).kind=5):Qxb L (n+1) (.member dp) i=match Qja L 5 Qra i with
 | .error e=>.error e
 | .ok j=>match Qja L 1 Q1a j with
  | .error e=>.error e
  | .ok k=>QDc L (Qxb L n (.body ⟨1,txN L i,txN L j,[],(tkN L i).line,(tkN L i).col⟩ (dp+1)) k):=by
 rw[Qxb,if_pos h5]
 rfl
set_option maxRecDepth 100000 in
theorem Q4g(r base:Nat)(file:Int)(L:List Tok)(lv:Value)(n:Nat)(hB:B4C r base file L lv n)(w:World)(ov:Value)(i:Nat)(D:List Qwa)(h:Q4a w r base file L lv ov i D)(dp:Nat)(mF:dp≤50)(hk:(tkN L i).kind=1)(hb:isK L (i+1) 4 [123]=true)(kF:D.length≤2*i)(hn:3*(L.length-i)≤n+2) :
 Calls Tryz.prog 109 #[.pointer (some ⟨r,0,none⟩),.int .i64 (dp:Int)] w (Q9b r base file L lv D (Qxb L (n+2) (.member dp) i) w):=by
 rw[QEe hk,Qnl hb]
 obtain⟨c0,c1,c2,c3,_,_,_,f1,f2,f3,_,_,_,cl⟩:=h.cells
 obtain⟨n1,n2⟩:=h.num
 have HH:=hid h
 have gU:=hid (h.ok.next h.lt (by rw[hk];decide))
 obtain⟨g,cap,rfl,hg,d0,d1,d2,d3,d4,d5⟩:=h.toks.at h.lt
 have gl:g<w.heap.size:=World.block_lt_of_cell? w _ d0
 rw[hk]at d0
 obtain⟨tl,H7⟩:∃t,t=(tkN L i).line:=⟨_,rfl⟩
 obtain⟨tc,Gb⟩:∃t,t=(tkN L i).col:=⟨_,rfl⟩
 rw[←H7]at d4
 rw[←Gb]at d5
 have KF:=hid H7
 have KE:=hid Gb
 clear H7 Gb
 have hN:=Qca.new w #[.int .i64 0,.int .i64 0,.int .i64 0] 27
 have Hl:Below w.heap.size w (w.alloc (.cells #[.int .i64 0,.int .i64 0,.int .i64 0] 27)):=(Below.refl _ _).alloc (Nat.le_refl _) _
 have c0':=(Hl.cell cl).trans c0
 have c1':=(Hl.cell cl).trans c1
 have d3':=(Hl.cell gl).trans d3
 have d4':=(Hl.cell gl).trans d4
 have d5':=(Hl.cell gl).trans d5
 obtain⟨m0,m1,m2,mf0,mf1,mf2,ml⟩:=three hN
 have hM:=(Qca.new w #[.int .i64 file,.int .i64 tl,.int .i64 tc] 27).drew
 have Hd:Qaa (fun _=>False) w (w.alloc (.cells #[.int .i64 file,.int .i64 tl,.int .i64 tc] 27)).drew:=((Qaa.refl _ w).alloc _).drew
 have h3:=h.keeps Hd
 obtain⟨x0,x1,x2,_,_,_,xl⟩:=three hM
 obtain⟨y0,y1,_,y3,_,_,_,z1,_,z3,_,_,_,yl⟩:=h3.cells
 have e0:=(Hd.cell (p:=⟨g,i*6,none⟩) gl (fun e=>e)).trans d0
 have gl3:=Nat.lt_of_lt_of_le gl Hd.size
 have H3:=hid h3
 have gh:=hid Hd
 have HM:=hid hM
 have GK:=hid (fun wx hx=>Q5h wx r base file L (.slice (some ⟨g,0,none⟩) L.length cap) ov i D hx 1 (by decide))
 have HJ:=hid (Qqc (by decide) hb)
 obtain⟨BR,MZ⟩:∃R,R=Qxb L n (.body ⟨1,⟨#[]⟩,txN L i,[],(tkN L i).line,(tkN L i).col⟩ (dp+1)) (i+1):=⟨_,rfl⟩
 have KY:Hid (∀wx ovx,Q4a wx r base file L (.slice (some ⟨g,0,none⟩) L.length cap) ovx (i+1) (D++[⟨1,⟨#[]⟩,txN L i,[],tl,tc⟩])→Calls Tryz.prog 66 #[.pointer (some ⟨r,0,none⟩),.int .i64 ((dp:Int)+1)] wx (Q9b r base file L (.slice (some ⟨g,0,none⟩) L.length cap) D BR wx)):=hid (fun wx ovx hx=>by
  have h9:=hB wx ovx (i+1) D ⟨1,⟨#[]⟩,txN L i,[],tl,tc⟩ (dp+1) hx (by omega) (by omega) (by omega)
  rw[show((dp+1:Nat):Int)=(dp:Int)+1 from by omega,KF.out,KE.out,←MZ]at h9
  exact h9)
 have HT:=hid (show Qja L 1 (QKa 1) i=if Q1a (tkN L i).text=true then .ok (i+1)else .error (i,1)from by unfold Qja;rw[if_pos hk];rfl)
 rw[←MZ]
 obtain⟨T,hT⟩:∃T,T=Qja L 1 (QKa 1) i:=⟨_,rfl⟩
 rw[←hT]at GK HT
 have bk:(dp:Int)≤50:=by omega
 have He:(if Q1a (tkN L i).text=true then BR else .error (i,1))=Qfi T BR:=by
  rw[HT.out]
  split <;> rfl
 rw[He]
 have Gr:∀j,T = .ok j→j=i+1:=fun j e=>by
  have h9:=HT.out
  rw[e]at h9
  split at h9
  ·injection h9
  ·cases h9
 have jv:=hid Gr
 have j5:=hid kF
 have G2:w.heap.size≠r:=by omega
 have H9:=hid (show ∀b,b<base→¬b=r from fun b hb e=>by have:=h.low;omega)
 clear h hk hb hB hN Hl hM Hd h3 hT HT He MZ Gr kF
 go_enter Tryz.func109,Tryz.ntmps109
 go_wp2_with fail
 go_region
 generalize (w.alloc (.cells #[.int .i64 file,.int .i64 tl,.int .i64 tc] 27)).drew=w3 at *
 clear c0 c1 c2 c3 d0 d1 d2 d3 d4 d5 c0' c1' d3' d4' d5' m0 m1 m2 mf0 mf1 mf2 ml gl cl f1 f2 f3
 go_wp2_with fail
 go_quiet (fail)
 go_wp2_with fail
 go_quiet (fail)
 go_wp2_with fail
 go_quiet (fail)
 go_wp2_with fail
 generalize kH:World.drewN (World.drewN w3 _) _=w5
 have Hs:Qaa (fun _=>False) w3 w5:=by rw[←kH];exact(Qda _ _).trans (Qda _ _) (fun _ _ e=>e)
 have H5:=hid (H3.out.keeps Hs)
 have MU:=hid (HM.out.keeps Hs (fun e=>e))
 have kb:=hid (gh.out.trans Hs (fun _ _ e=>e))
 obtain⟨g',cap',eg,hg',q0,q1,q2,q3,q4,q5⟩:=H5.out.toks.at gU.out
 cases eg
 rw[HJ.out.1]at q0
 rw[HJ.out.2]at q1
 have ql:g<w5.heap.size:=World.block_lt_of_cell? w5 _ q0
 obtain⟨b0,b1,_,b3,_,_,_,_,_,_,_,_,_,bl⟩:=H5.out.cells
 generalize (tkN L (i+1)).value=tv at *
 generalize (tkN L (i+1)).line=tl2 at *
 generalize (tkN L (i+1)).col=tc2 at *
 have M2:=Qca.new w5 #[.int .i64 0,.string ⟨#[]⟩,.int .i64 0,.int .i64 0,.int .i64 0,.int .i64 0] 65
 have Gk:Below w5.heap.size w5 (w5.alloc (.cells #[.int .i64 0,.string ⟨#[]⟩,.int .i64 0,.int .i64 0,.int .i64 0,.int .i64 0] 65)):=(Below.refl _ _).alloc (Nat.le_refl _) _
 have b0':=(Gk.cell bl).trans b0
 have b1':=(Gk.cell bl).trans b1
 have q0':=(Gk.cell ql).trans q0
 have q1':=(Gk.cell ql).trans q1
 have q2':=(Gk.cell ql).trans q2
 have q3':=(Gk.cell ql).trans q3
 have q4':=(Gk.cell ql).trans q4
 have q5':=(Gk.cell ql).trans q5
 obtain⟨g0,g1,g2,g3,g4,g5⟩:=QWb M2
 obtain⟨o0,o1,o2,o3,o4,o5⟩:=Qga M2
 have Hh:=M2.lt
 have Hz:Qaa (fun _=>False) w5 (w5.alloc (.cells #[.int .i64 4,.string ⟨#[123]⟩,.int .i64 tv,.int .i64 file,.int .i64 tl2,.int .i64 tc2] 65)).drew:=((Qaa.refl _ w5).alloc _).drew
 have M1:=(Qca.new w5 #[.int .i64 4,.string ⟨#[123]⟩,.int .i64 tv,.int .i64 file,.int .i64 tl2,.int .i64 tc2] 65).drew
 obtain⟨u0,u1,_,_,_,_⟩:=Qga M1
 have ul:=M1.lt
 have h6:=H5.out.keeps Hz
 have K2:=hid (MU.out.keeps Hz (fun e=>e))
 have gH:=hid ((kb.out.trans Hz (fun _ _ e=>e)).mono (S:=(· = r)) (fun _ _ e=>e.elim))
 obtain⟨s0,s1,_,s3,_,_,_,r1,_,_,_,_,_,sl⟩:=h6.cells
 have H6:=hid h6
 have rF:=hid M1
 have KX:IntKind.i64.wrap (((i:Nat):Int)+1)=((i:Nat):Int)+1:=IntWalk.i64_in _ (by omega)
 have Mp:(0:Int)≤((i:Nat):Int)+1:=by omega
 have k8:((i:Nat):Int)+1<(L.length:Int):=by have:=gU.out;omega
 have jd:(((i:Nat):Int)+1).toNat=i+1:=by omega
 clear M2 Gk Hz M1 h6 Hs
 go_region
 generalize (w5.alloc (.cells #[.int .i64 4,.string ⟨#[123]⟩,.int .i64 tv,.int .i64 file,.int .i64 tl2,.int .i64 tc2] 65)).drew=w6 at *
 clear KX Mp k8 jd b0 b1 b3 bl b0' b1' q0 q1 q2 q3 q4 q5 q0' q1' q2' q3' q4' q5' g0 g1 g2 g3 g4 g5 o0 o1 o2 o3 o4 o5 Hh ql
 go_wp2_with fail
 obtain⟨p0,p1,p2,_,_,_,pl⟩:=three K2.out
 cases T with
 | ok j=>
  have Gr:=jv.out j rfl
  have Kf:=hid (fun wx ovx (hx:Q4a wx r base file L (.slice (some ⟨g,0,none⟩) L.length cap) ovx j D) (X:ByteArray)=>Qqb wx r base file L (.slice (some ⟨g,0,none⟩) L.length cap) ovx j D ⟨1,⟨#[]⟩,X,[],tl,tc⟩ (.slice none 0 0) hx (Qha.none _ _) (by have:=j5.out;omega))
  go_region_with (first | (go_at_call 65;refine(by exact GK.out _ (by exact H6.out.keeps ((Qaa.refl _ _).drew)):Calls _ _ _ _ _).mono ?_;rintro e w7 ⟨Gs,rfl,jC⟩;have jm:=hid jC;have GY:=(((Qaa.refl (fun _=>False) w6).drew).mono (S:=(· = r)) (fun _ _ e=>e.elim)).trans Gs (fun _ _ e=>e);have jB:=K2.out.keeps GY G2;obtain⟨v0,v1,v2,_,_,_,vl⟩:=three jB;have MT:=hid (gH.out.trans GY (fun _ _ e=>e));clear jC Gs GY jB) | (go_at_call 64;refine(by exact Kf.out _ _ jm.out _:Calls _ _ _ _ _).mono ?_;rintro e w8 ⟨rfl,ov8,gY,G7⟩))
  all_goals
   have jp:=hid (KY.out w8 ov8 (by rw[Gr]at gY;exact gY))
   have GS:=hid (((MT.out.below HH.out.size H9.out)).trans G7)
   clear gY G7
   go_wp2_with fail
   refine(by exact jp.out:Calls _ _ _ _ _).mono ?_
   rintro e w9 ⟨rfl,GB,jb⟩
   have mA:=hid (GS.out.trans GB)
   clear GB
   cases BR with
   | ok q=>
    obtain⟨m,ds⟩:=q
    obtain⟨ov9,M4,JC⟩:=jb
    have gA:=hid (Qtb w9 r base file L _ ov9 m (D++ds) M4 [59] (by decide))
    have cB:=hid JC
    have cQ:=hid M4.size
    clear M4 JC
    go_wp2_with fail
    refine(by exact gA.out:Calls _ _ _ _ _).mono ?_
    rintro e w10 ⟨rfl,GC,t1,t2⟩
    have Kg:=hid (And.intro t1 t2)
    have mI:=hid (mA.out.trans (GC.below cQ.out H9.out))
    clear GC t1 t2
    go_wp2_with fail
    refine bodyPost_ret (results_none rfl _ _ _) rfl ?_
    refine⟨rfl,mI.out,?_⟩
    cases hg:isK L m 4 [59]with
    | true=>
     rw[show QDc L (Qfi (.ok j) (.ok (m,ds)))=_ from QJc hg]
     exact⟨ov9,Kg.out.1 hg,by have:=cB.out;omega⟩
    | false=>
     rw[show QDc L (Qfi (.ok j) (.ok (m,ds)))=_ from Qcc hg]
     exact Kg.out.2 hg
   | error q=>
    obtain⟨k,c⟩:=q
    have KB:=hid jb
    clear jb
    have GQ:=hid (Qqa w9 r file L k c KB.out ⟨#[59]⟩)
    go_wp2_with fail
    refine(by exact GQ.out:Calls _ _ _ _ _).mono ?_
    rintro e w10 ⟨rfl,rfl⟩
    go_wp2_with fail
    refine bodyPost_ret (results_none rfl _ _ _) rfl ?_
    exact⟨rfl,mA.out,KB.out⟩
 | error q=>
  obtain⟨k,c⟩:=q
  go_region_with (first | (go_at_call 65;refine(by exact GK.out _ (by exact H6.out.keeps ((Qaa.refl _ _).drew)):Calls _ _ _ _ _).mono ?_;rintro e w7 ⟨Gs,rfl,jC⟩;have jm:=hid jC;have GY:=(((Qaa.refl (fun _=>False) w6).drew).mono (S:=(· = r)) (fun _ _ e=>e.elim)).trans Gs (fun _ _ e=>e);have jB:=K2.out.keeps GY G2;obtain⟨v0,v1,v2,_,_,_,vl⟩:=three jB;have MT:=hid (gH.out.trans GY (fun _ _ e=>e));clear jC Gs GY jB) | (go_at_call 64;refine(by exact Q8a _ r file L k c jm.out _ _ _ _ _ _ _ _ _:Calls _ _ _ _ _).mono ?_;rintro e w8 ⟨rfl,gY,gE⟩))
  all_goals
   have K7:Hid (Calls Tryz.prog 66 #[.pointer (some ⟨r,0,none⟩),.int .i64 ((dp:Int)+1)] w8 (fun e w'=>e = .returned (.tuple #[])∧w8=w')):=hid (by
    have h9:=Qoc w8 r file L k c gY (dp+1) (by omega)
    rw[show((dp+1:Nat):Int)=(dp:Int)+1 from by omega]at h9
    exact h9)
   have GS:=hid ((MT.out.trans (gE.mono (S:=(· = r)) (fun _ _ e=>e.elim)) (fun _ _ e=>e)).below HH.out.size H9.out)
   have GG:=hid gY
   clear gY gE
   go_wp2_with fail
   refine(by exact K7.out:Calls _ _ _ _ _).mono ?_
   rintro e w9 ⟨rfl,rfl⟩
   have GQ:=hid (Qqa w8 r file L k c GG.out ⟨#[59]⟩)
   go_wp2_with fail
   refine(by exact GQ.out:Calls _ _ _ _ _).mono ?_
   rintro e w10 ⟨rfl,rfl⟩
   go_wp2_with fail
   refine bodyPost_ret (results_none rfl _ _ _) rfl ?_
   exact⟨rfl,GS.out,GG.out⟩
end Go.Proofs.YtofhcgbihonckaaGreat
