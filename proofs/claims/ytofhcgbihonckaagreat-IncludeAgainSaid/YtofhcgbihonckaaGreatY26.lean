/- include: load: the loader in memory, what holds in its loop. | include: load: what its loop leaves behind each definition, and at its end. | slices.Clone at definitions, parts, cells (printed by gclone.py). | Contracts of include: copies of definitions. | Contracts of include: copied. | include: load: the if within its loop: where nothing new is read (printed by gld.py) | include: load: the if within its loop: where a file is read (printed by gld.py) | Contracts of include: load. | Contracts of include: the loading of all files that a main file needs. -/
import Derived.Test.YtofhcgbihonckaaGreatY20
import Derived.Test.YtofhcgbihonckaaGreatY19
import Derived.Test.YtofhcgbihonckaaGreatY2
import Derived.Test.YtofhcgbihonckaaGreatY25
import Derived.Test.YtofhcgbihonckaaGreatY16
import Derived.Test.YtofhcgbihonckaaGreatY21
import Derived.StillTailTactics
import Derived.Deep.DeepCutAuto
import Derived.Deep.CutBlock
import Derived.Deep.CutRange
import Derived.Deep.LoopGhost
import Derived.Deep.RegionWith
set_option linter.all false
set_option maxHeartbeats 8000000
namespace Go.Proofs.YtofhcgbihonckaaGreat
open Go.Lib (hid)
open Go.RowKit Go.ChangeMaps
def Q4d(l:List Nat):List Value:=l.map fun(n:Nat)=>Value.int .i64 (n:Int)
def Qad(l:List ByteArray):List Value:=l.map fun s=>Value.string s
structure Qif(A:Nat→Prop)(w:World)(lb mb base:Nat)(fv ov rv:Value)(F:List QFa)(opn:List Nat)(ord:List ByteArray)(giv:Q4b):Prop where
 holds:Qca w lb (ldC fv mb ov rv) 95
 files:QKb w fv F
 low:∀g,fv.ownBlock=some g→g<base
 opn:w.ownsRow base 3 1 ov opn.length (Q4d opn)
 ord:w.ownsRow base 9 1 rv ord.length (Qad ord)
 giv:∃gvs:List (Int × Value),QXc w mb gvs∧gvs.length=giv.length∧∀i (h:i<giv.length) (h2:i<gvs.length),gvs[i].1=giv[i].1∧Qsa w base gvs[i].2 giv[i].2∧∀g,gvs[i].2.ownBlock=some g→¬A g
 lbb:base≤lb
 mbb:base≤mb
 size:base≤w.heap.size
def LdS(lb mb:Nat)(ov rv:Value)(i:Nat):Prop:=i=lb∨i=mb∨ov.ownBlock=some i∨rv.ownBlock=some i
def QKi(w:World)(v v':Value):Prop:=∀g,v'.ownBlock=some g→v.ownBlock=some g∨w.heap.size≤g
theorem QKi.trans{w w':World}{a b c:Value}(h:QKi w a b)(k:QKi w' b c)(hs:w.heap.size≤w'.heap.size):QKi w a c:=by
 intro g hg
 rcases k g hg with e|e
 ·exact h g e
 ·exact .inr (by omega)
def QMn(A:Nat→Prop)(lb mb base:Nat)(fv ov rv:Value)(F:List QFa)(opn:List Nat)(R:Lr)(w:World)(e:Ending)(w':World):Prop:=
 Qaa (LdS lb mb ov rv) w w'∧match R with
 | .error (p,er)=>e = .returned (.tuple #[.slice none 0 0,QJb p,.int .i64 er])
 | .ok (ord',giv',out)=>∃v ov' rv',e = .returned (.tuple #[v,QJb (0,0,0),.int .i64 0])∧Qsa w' base v out∧Qif A w' lb mb base fv ov' rv' F opn ord' giv'∧(∀g,v.ownBlock=some g→w.heap.size≤g)∧QKi w ov ov'∧QKi w rv rv'
def Q1g(fuel:Nat):Prop:=∀(A:Nat→Prop) (lb mb base:Nat) (fv ov rv:Value) (F:List QFa) (opn:List Nat) (ord:List ByteArray) (giv:Q4b) (file before:Nat) (w:World),Qif A w lb mb base fv ov rv F opn ord giv→(∀g,A g→g<w.heap.size)→
    file<F.length→F.length≤8→(∀f∈F,f.text.size≤maxLen∧f.name.size≤maxLen)→Qxd F opn ord giv→file ∉ opn→Qkf giv file=none→F.length<opn.length+fuel→before≤6000→0<base→Qhf w→
    Calls Tryz.prog 72 #[.pointer (some ⟨lb,0,none⟩),.int .i64 (file:Int),.int .i64 (before:Int)] w (QMn A lb mb base fv ov rv F opn (ldT F fuel opn ord giv file before) w)
theorem QNm:(Tryz.prog.info? 3).map (fun i=>(i.zero,i.size,i.bytes))=some (some (.int .i64 0),1,8):=by kernel_rfl
theorem QOm:(Tryz.prog.info? 9).map (fun i=>(i.zero,i.size,i.bytes))=some (some (.string ⟨#[]⟩),1,16):=by kernel_rfl
theorem QNj:(Tryz.prog.info? 34).map (fun i=>(i.zero,i.size,i.bytes))=some (some (.agg #[.int .i64 0,.string ⟨#[]⟩,.string ⟨#[]⟩,.slice none 0 0,.int .i64 0,.int .i64 0,.int .i64 0]),7,88):=by kernel_rfl
section
variable{A:Nat→Prop}{w w':World}{lb mb base:Nat}{fv ov rv:Value}{F:List QFa}{opn:List Nat}{ord:List ByteArray}{giv:Q4b}
theorem Qif.typed(h:Qif A w lb mb base fv ov rv F opn ord giv){i:Nat}(hi:LdS lb mb ov rv i){cs:Array Value}{t:TypeId}(hc:Qca w i cs t):t=95∨t=3∨t=9:=by
 rcases hi with rfl|rfl|e|e
 ·have:=h.holds.symm.trans hc
  injection this with this;injection this with _ this;exact .inl this.symm
 ·obtain⟨gvs,⟨es,clock,hb,_⟩,_⟩:=h.giv
  have:=hb.symm.trans hc
  injection this with this;cases this
 ·obtain⟨_,_,cur,hb⟩:=Qva h.opn e
  have:=hb.symm.trans hc
  injection this with this;injection this with _ this;exact .inr (.inl this.symm)
 ·obtain⟨_,_,cur,hb⟩:=Qva h.ord e
  have:=hb.symm.trans hc
  injection this with this;injection this with _ this;exact .inr (.inr this.symm)
theorem Qif.fds(h:Qif A w lb mb base fv ov rv F opn ord giv)(k:Qaa (LdS lb mb ov rv) w w'){b2:Nat}{v:Value}{l:List FdT}(r:Qsa w b2 v l):Qsa w' b2 v l:=by
 refine r.keeps k (fun g hg hS=>?_) (fun b _ hS cur=>⟨fun hc=>?_,fun hc=>?_⟩)
 ·obtain⟨_,_,hr,_⟩:=id r
  obtain⟨_,_,cur,hb⟩:=Qva hr hg
  rcases h.typed hS hb with e|e|e <;> exact absurd e (by decide)
 ·rcases h.typed hS hc with e|e|e <;> exact absurd e (by decide)
 ·rcases h.typed hS hc with e|e|e <;> exact absurd e (by decide)
theorem Qif.pos(h:Qif A w lb mb base fv ov rv F opn ord giv)(k:Qaa (LdS lb mb ov rv) w w'){b:Nat}{cs:Array Value}(r:Qca w b cs 27):Qca w' b cs 27:=by
 refine r.keeps k (fun hS=>?_)
 rcases h.typed hS r with e|e|e <;> exact absurd e (by decide)
theorem Qif.new(h:Qif A w lb mb base fv ov rv F opn ord giv)(k:Below w.heap.size w w'):Qif A w' lb mb base fv ov rv F opn ord giv:=by
 have kf:Qaa (fun _=>False) w w':=Qaa.of_fresh k _
 obtain⟨gvs,hg,h1,h2⟩:=h.giv
 exact⟨h.holds.keeps kf (fun e=>e),h.files.new k,h.low,Qba h.opn kf (fun _ _ e=>e),Qba h.ord kf (fun _ _ e=>e),⟨gvs,hg.keeps kf (fun e=>e),h1,fun i hi kU=>⟨(h2 i hi kU).1,(h2 i hi kU).2.1.new k,(h2 i hi kU).2.2⟩⟩,h.lbb,h.mbb,Nat.le_trans h.size k.size⟩
theorem Qci(k:Nat):∀(giv:Q4b) (gvs:List (Int × Value)),gvs.length=giv.length→(∀i (h:i<giv.length) (h2:i<gvs.length),gvs[i].1=giv[i].1)→
 (Qkf giv k=none∧Qwd gvs k=(.slice none 0 0,false))∨∃i,∃h:i<giv.length,∃h2:i<gvs.length,Qkf giv k=some giv[i].2∧Qwd gvs k=(gvs[i].2,true)
 | [],[],_,_=>.inl ⟨rfl,rfl⟩
 | p::giv,q::gvs,hl,he=>by
  have e0:q.1=p.1:=he 0 (by simp) (by simp)
  by_cases hk:p.1=(k:Int)
  ·exact .inr ⟨0,by simp,by simp,by simp[Qkf,hk],by simp[Qwd,e0,hk]⟩
  ·have e1:Qkf (p::giv) k=Qkf giv k:=by simp[Qkf,hk]
   have e2:Qwd (q::gvs) k=Qwd gvs k:=by simp[Qwd,e0,hk]
   rw[e1,e2]
   rcases Qci k giv gvs (by simpa using hl) (fun i h h2=>he (i+1) (by simpa using h) (by simpa using h2))with h|⟨i,h,h2,h3,h4⟩
   ·exact .inl h
   ·exact .inr ⟨i+1,by simpa using h,by simpa using h2,h3,h4⟩
theorem Qif.look(h:Qif A w lb mb base fv ov rv F opn ord giv)(hg:Qxd F opn ord giv)(k:Nat)(hk:k≤1000) :
 ∃v b,(Instr.lookup 93 (.map (some mb)) (.int .i64 k) true).run Tryz.prog w = .ok (.tuple #[v,.bool b]) w∧((Qkf giv k=none∧b=false∧v = .slice none 0 0)∨∃l,Qkf giv k=some l∧b=true∧Qsa w base v l∧l.length≤6000∧∀g,v.ownBlock=some g→¬A g):=by
 obtain⟨gvs,hJ,h1,h2⟩:=h.giv
 have hd:(gvs.map (·.1)).Nodup:=by
  obtain⟨ks,e,hn,_⟩:=hg.keys
  have e2:gvs.map (·.1)=giv.map (·.1):=by
   apply List.ext_getElem (by simp[h1])
   intro i a b
   simp only[List.getElem_map]
   exact(h2 i (by simpa using b) (by simpa using a)).1
  rw[e2,e]
  have Ju:ks.Nodup:=(List.nodup_append.1 hn).1
  exact List.Pairwise.map _ (fun a b hab e=>hab (by omega)) Ju
 refine⟨_,_,hJ.look hd k (by omega),?_⟩
 rcases Qci k giv gvs h1 (fun i a b=>(h2 i a b).1)with⟨e1,e2⟩|⟨i,a,b,e1,e2⟩
 ·rw[e2];exact .inl ⟨e1,rfl,rfl⟩
 ·rw[e2];exact .inr ⟨_,e1,rfl,(h2 i a b).2.1,hg.len _ (List.getElem_mem a),(h2 i a b).2.2⟩
end
structure LdW(A:Nat→Prop)(lb mb base pb qb:Nat)(fv ov rv dv:Value)(F:List QFa)(opn2:List Nat)(file:Int)(D:List Qra)(before:Nat)(w0:World)(outv:Value)(ord:List ByteArray)(giv:Q4b)(out:List FdT)(wr:World):Prop where
 ld:∃ov' rv',Qif (fun g=>A g∨outv.ownBlock=some g) wr lb mb base fv ov' rv' F opn2 ord giv∧QKi w0 ov ov'∧QKi w0 rv rv'
 row:Qsa wr base outv out
 new:∀g,outv.ownBlock=some g→w0.heap.size≤g
 len:before+out.length≤6000
 defs:Qsa wr base dv (Qoc file D)
 pos:Qca wr pb #[.int .i64 0,.int .i64 0,.int .i64 0] 27
 tmp:∃x y z,Qca wr qb #[.int .i64 x,.int .i64 y,.int .i64 z] 27
 ok:Qxd F opn2 ord giv
 keeps:Qaa (LdS lb mb ov rv) w0 wr
 low:w0.heap.size≤pb∧w0.heap.size≤qb∧pb≠qb
 sep:∀g,dv.ownBlock=some g→outv.ownBlock≠some g
section
variable{A:Nat→Prop}{w0 w w':World}{lb mb base pb qb before:Nat}{fv ov rv dv outv:Value}{F:List QFa}{opn2:List Nat}{ord:List ByteArray}{giv:Q4b}{file:Int}{D:List Qra}{out:List FdT}
theorem LdW.new1(h:LdW A lb mb base pb qb fv ov rv dv F opn2 file D before w0 outv ord giv out w)(k:Below w.heap.size w w'):LdW A lb mb base pb qb fv ov rv dv F opn2 file D before w0 outv ord giv out w':=by
 obtain⟨ov',rv',h1,h2,h3⟩:=h.ld
 obtain⟨x,y,z,ht⟩:=h.tmp
 exact⟨⟨ov',rv',h1.new k,h2,h3⟩,h.row.new k,h.new,h.len,h.defs.new k,h.pos.keeps (Qaa.of_fresh k (fun _=>False)) (fun e=>e),⟨x,y,z,ht.keeps (Qaa.of_fresh k (fun _=>False)) (fun e=>e)⟩,h.ok,h.keeps.trans (Qaa.of_fresh k (LdS lb mb ov rv)) (fun _ _ e=>e),h.low,h.sep⟩
theorem Qsa.side{S:Nat→Prop}{b2:Nat}{v:Value}{l:List FdT}(r:Qsa w b2 v l)(k:Qaa S w w')(hS:∀b,S b→∃cs,Qca w b cs 27):Qsa w' b2 v l:=by
 have Hq:∀{b:Nat} {cs:Array Value} {t:TypeId},S b→Qca w b cs t→t=27:=by
  intro b cs t hb hc
  obtain⟨_,h2⟩:=hS b hb
  have:=h2.symm.trans hc
  injection this with this;injection this with _ this;exact this.symm
 refine r.keeps k (fun g hg hs=>?_) (fun b _ hs cur=>⟨fun hc=>?_,fun hc=>?_⟩)
 ·obtain⟨_,_,hr,_⟩:=id r
  obtain⟨_,_,cur,hb⟩:=Qva hr hg
  exact absurd (Hq hs hb) (by decide)
 ·exact absurd (Hq hs hc) (by decide)
 ·exact absurd (Hq hs hc) (by decide)
theorem Qif.side{S:Nat→Prop}{A:Nat→Prop}{ov rv:Value}{opn:List Nat}(h:Qif A w lb mb base fv ov rv F opn ord giv)(k:Qaa S w w')(hS:∀b,S b→base≤b∧∃cs,Qca w b cs 27):Qif A w' lb mb base fv ov rv F opn ord giv:=by
 have Hq:∀{b:Nat} {cs:Array Value} {t:TypeId},S b→Qca w b cs t→t=27:=by
  intro b cs t hb hc
  obtain⟨_,_,h2⟩:=hS b hb
  have:=h2.symm.trans hc
  injection this with this;injection this with _ this;exact this.symm
 obtain⟨gvs,hg,h1,h2⟩:=h.giv
 refine⟨h.holds.keeps k (fun e=>absurd (Hq e h.holds) (by decide)),?_,h.low,Qba h.opn k (fun g hg e=>?_),Qba h.ord k (fun g hg e=>?_),⟨gvs,hg.keeps k (fun e=>?_),h1,fun i hi kU=>⟨(h2 i hi kU).1,(h2 i hi kU).2.1.side k (fun b hb=>(hS b hb).2),(h2 i hi kU).2.2⟩⟩,h.lbb,h.mbb,Nat.le_trans h.size k.size⟩
 ·obtain⟨a,cap,hv,h3,h4,h5⟩:=h.files
  refine⟨a,cap,hv,h3,h4,fun h0=>?_⟩
  obtain⟨g,o,rfl,hg,hc⟩:=h5 h0
  have hn:¬S g:=fun e=>by
   have e1:=(hS g e).1
   have e2:=h.low g (by rw[hv];rfl)
   omega
  exact⟨g,o,rfl,Nat.lt_of_lt_of_le hg k.size,fun i hi=>⟨(k.cell (p:=⟨g,o+i*2,none⟩) hg hn).trans (hc i hi).1,(k.cell (p:=⟨g,o+i*2+1,none⟩) hg hn).trans (hc i hi).2⟩⟩
 ·obtain⟨_,_,cur,hb⟩:=Qva h.opn hg
  exact absurd (Hq e hb) (by decide)
 ·obtain⟨_,_,cur,hb⟩:=Qva h.ord hg
  exact absurd (Hq e hb) (by decide)
 ·obtain⟨es,clock,hb,_⟩:=hg
  obtain⟨_,_,h3⟩:=hS mb e
  have:=hb.symm.trans h3
  injection this with this;cases this
theorem LdW.turn(h:LdW A lb mb base pb qb fv ov rv dv F opn2 file D before w0 outv ord giv out w)(kc:base≤w0.heap.size){ov' rv' ov2 rv2:Value}{ord2:List ByteArray}{giv2:Q4b}(Kl:QKi w0 ov ov')(gX:QKi w0 rv rv')(hL:Qif (fun g=>A g∨outv.ownBlock=some g) w lb mb base fv ov' rv' F opn2 ord giv)
 (k:Qaa (LdS lb mb ov' rv') w w') (nz:Qif (fun g=>A g∨outv.ownBlock=some g) w' lb mb base fv ov2 rv2 F opn2 ord2 giv2) (mg:Qxd F opn2 ord2 giv2) (ku:QKi w ov' ov2) (K6:QKi w rv' rv2) (x y z:Int) :
 LdW A lb mb base pb qb fv ov rv dv F opn2 file D before w0 outv ord2 giv2 out (((w'.setCell ⟨qb,0,none⟩ (.int .i64 x)).setCell ⟨qb,1,none⟩ (.int .i64 y)).setCell ⟨qb,2,none⟩ (.int .i64 z)):=by
 obtain⟨x0,y0,z0,ht⟩:=h.tmp
 have ht':=hL.pos k ht
 have hp':=hL.pos k h.pos
 have hs:=k.size
 have bS:=h.keeps.size
 have kq:Qaa (· = qb) w' (((w'.setCell ⟨qb,0,none⟩ (.int .i64 x)).setCell ⟨qb,1,none⟩ (.int .i64 y)).setCell ⟨qb,2,none⟩ (.int .i64 z)):=
  (((Qaa.refl (· = qb) w').setCell (p:=⟨qb,0,none⟩) (.inr rfl) _).setCell (p:=⟨qb,1,none⟩) (.inr rfl) _).setCell (p:=⟨qb,2,none⟩) (.inr rfl) _
 have hS:∀b,b=qb→base≤b∧∃cs,Qca w' b cs 27:=by
  rintro b rfl
  exact⟨by have:=h.low.2.1;omega,_,ht'⟩
 refine⟨⟨ov2,rv2,nz.side kq hS,Kl.trans ku bS,gX.trans K6 bS⟩,(hL.fds k h.row).side kq (fun b e=>(hS b e).2),h.new,h.len,(hL.fds k h.defs).side kq (fun b e=>(hS b e).2),hp'.keeps kq (fun e=>h.low.2.2 e),⟨x,y,z,((ht'.set 0 _).set 1 _).set 2 _⟩,mg,?_,h.low,h.sep⟩
 refine(h.keeps.trans k ?_).trans kq ?_
 ·rintro i hi (e|e|e|e)
  ·exact .inl e
  ·exact .inr (.inl e)
  ·rcases Kl i e with e2|e2
   ·exact .inr (.inr (.inl e2))
   ·omega
  ·rcases gX i e with e2|e2
   ·exact .inr (.inr (.inr e2))
   ·omega
 ·rintro i hi rfl
  have:=h.low.2.1
  omega
end
end Go.Proofs.YtofhcgbihonckaaGreat
namespace Go.Proofs.YtofhcgbihonckaaGreat
open Go.Lib (hid)
open Go.RowKit Go.ChangeMaps
theorem Q1j{w:World}{B base:Nat}{e:TypeId}{size n:Nat}{cs:Array Value}(hB:w.heap.size=B)(hb:base≤B)(hs:cs.size=n*size)(hn:n≤1000):(w.alloc (.cells cs e)).ownsRow base e size (.slice (some ⟨B,0,none⟩) n n) n cs.toList:=by
 subst hB
 refine⟨by simpa using hs,.inr ⟨w.heap.size,n,cs,rfl,hb,heap_alloc_new w _,Nat.le_refl _,by unfold maxLen;omega,hs,?_⟩⟩
 rw[List.take_of_length_le (by simp[hs])]
theorem Qia.keep2{w w':World}{base:Nat}{v:Value}{ps:List QRa}{S:Nat→Prop}(h:Qia w base v ps)(k:Qaa S w w')(ha:∀b,b<w.heap.size→S b→∀cur,¬Qca w b cur 72∧¬Qca w b cur 75):Qia w' base v ps:=by
 obtain⟨us,u1,u2,u3⟩:=h
 have key:∀{e:TypeId} {size n:Nat} {u:Value} {xs:List Value},w.ownsRow base e size u n xs→(e=72∨e=75)→∀g,u.ownBlock=some g→¬S g:=by
  intro e size n u xs hr he g hg hS
  obtain⟨b1,_,cur,b2⟩:=Qva hr hg
  rcases he with rfl|rfl
  ·exact(ha g b1 hS cur).1 b2
  ·exact(ha g b1 hS cur).2 b2
 exact⟨us,u1,Qba u2 k (key u2 (.inr rfl)),fun i hi kU=>Qba (u3 i hi kU) k (key (u3 i hi kU) (.inl rfl))⟩
theorem Qbe:∀(l:List FdT) (vs:List Value),(∀u∈vs,u.oneCell'=true)→∀u∈QGa l vs,u.oneCell'=true
 | [],_,_,u,hu=>by cases hu
 | x::xs,[],_,u,hu=>by cases hu
 | x::xs,v::vs,h,u,hu=>by
  simp only[QGa,List.mem_cons]at hu
  rcases hu with rfl|rfl|rfl|rfl|rfl|rfl|rfl|hu
  ·rfl
  ·rfl
  ·rfl
  ·exact h _ List.mem_cons_self
  ·rfl
  ·rfl
  ·rfl
  ·exact Qbe xs vs (fun u hu=>h u (List.mem_cons_of_mem _ hu)) u hu
theorem Qsa.src{w:World}{base:Nat}{v:Value}{l:List FdT}(h:Qsa w base v l):∃us:List Value,us.length=l.length∧Src Tryz.prog 7 25 v l.length (QGa l us) w∧∀k (h:k<l.length) (h2:k<us.length),Qia w base us[k] l[k].2.parts:=by
 obtain⟨us,h1,h2,h3⟩:=h
 have GD:∀u∈us,u.oneCell'=true:=by
  intro u hu
  obtain⟨k,hk,rfl⟩:=List.getElem_of_mem hu
  obtain⟨a,c,e⟩:=(h3 k (by omega) hk).slice
  rw[e];rfl
 refine⟨us,h1,?_,h3⟩
 have hc:=Qbe l us GD
 have hl:=QTf l us h1
 rcases id h2.2 with⟨rfl,h0⟩|⟨g,cap,cur,rfl,_⟩
 ·have:l=[]:=List.eq_nil_of_length_eq_zero h0
  subst this
  have:us=[]:=List.eq_nil_of_length_eq_zero h1
  subst this
  exact Src.ofNil w Tryz.underlying25 0
 ·exact Src.ofSlice w Tryz.underlying25 _ _ _ _ hl (h2.cells (g:=g) rfl) hc
section
variable{A:Nat→Prop}{w0 w:World}{lb mb base pb qb before:Nat}{fv ov rv dv outv:Value}{F:List QFa}{opn2:List Nat}{ord:List ByteArray}{giv:Q4b}{file:Int}{D:List Qra}{out:List FdT}
theorem LdW.typed(h:LdW A lb mb base pb qb fv ov rv dv F opn2 file D before w0 outv ord giv out w){g:Nat}(hg:outv.ownBlock=some g){cs:Array Value}{t:TypeId}(hc:Qca w g cs t):t=34:=by
 obtain⟨_,_,hr,_⟩:=h.row
 obtain⟨_,_,cur,hb⟩:=Qva hr hg
 have:=hb.symm.trans hc
 injection this with this;injection this with _ this;exact this.symm
theorem LdW.app(h:LdW A lb mb base pb qb fv ov rv dv F opn2 file D before w0 outv ord giv out w)(kc:base≤w0.heap.size){mv:Value}{m:List FdT}(hm:Qsa w base mv m)(hl:m.length≤Qhb before out) :
 ∃vs us,w.ownsRow base 34 7 outv out.length (QGa out vs)∧Src Tryz.prog 7 25 mv m.length (QGa m us) w∧∀v' w',w'.ownsRow base 34 7 v' (out.length+m.length) (QGa out vs++QGa m us)→w.grownBy w' outv.ownBlock→(v'.ownBlock=outv.ownBlock∨v'.ownBlock=some w.heap.size)→
  LdW A lb mb base pb qb fv ov rv dv F opn2 file D before w0 v' ord giv (out++m) w':=by
 obtain⟨vs,h1,h2,h3⟩:=id h.row
 obtain⟨us,k1,k2,k3⟩:=hm.src
 refine⟨vs,us,h2,k2,fun v' w' Hl Ha GY=>?_⟩
 have kk:Qaa (fun i=>outv.ownBlock=some i) w w':=Qaa.of_grown Ha (fun _ e=>e)
 have ha:∀b,b<w.heap.size→outv.ownBlock=some b→∀cur,¬Qca w b cur 72∧¬Qca w b cur 75:=fun b _ hb cur=>
  ⟨fun hc=>absurd (h.typed hb hc) (by decide),fun hc=>absurd (h.typed hb hc) (by decide)⟩
 obtain⟨ov',rv',hL,Kl,gX⟩:=h.ld
 have K1:∀g,v'.ownBlock=some g→outv.ownBlock=some g∨w.heap.size≤g:=by
  intro g hg
  rcases GY with e|e
  ·exact .inl (e ▸ hg)
  ·rw[e]at hg;cases hg;exact .inr (Nat.le_refl _)
 have bS:=h.keeps.size
 obtain⟨gvs,hJ,g1,g2⟩:=hL.giv
 obtain⟨x,y,z,ht⟩:=h.tmp
 have Hb:Qsa w' base v' (out++m):=Qsa.app h1 k1 Hl (fun k a b=>(h3 k a b).keep2 kk ha) (fun k a b=>(k3 k a b).keep2 kk ha)
 have dO:Qif (fun g=>A g∨v'.ownBlock=some g) w' lb mb base fv ov' rv' F opn2 ord giv:=by
  refine⟨hL.holds.keeps kk (fun e=>absurd (h.typed e hL.holds) (by decide)),?_,hL.low,Qba hL.opn kk (fun g hg e=>?_),Qba hL.ord kk (fun g hg e=>?_),⟨gvs,hJ.keeps kk (fun e=>?_),g1,fun i a b=>⟨(g2 i a b).1,(g2 i a b).2.1.keeps kk (fun g hg e=>(g2 i a b).2.2 g hg (.inr e)) ha,fun g hg e=>?_⟩⟩,hL.lbb,hL.mbb,Nat.le_trans hL.size kk.size⟩
  ·obtain⟨a,cap,hv,h3,h4,h5⟩:=hL.files
   refine⟨a,cap,hv,h3,h4,fun h0=>?_⟩
   obtain⟨g,o,rfl,hg,hc⟩:=h5 h0
   have hn:¬(outv.ownBlock=some g):=fun e=>by
    have e1:=h.new g e
    have e2:=hL.low g (by rw[hv];rfl)
    omega
   exact⟨g,o,rfl,Nat.lt_of_lt_of_le hg kk.size,fun i hi=>⟨(kk.cell (p:=⟨g,o+i*2,none⟩) hg hn).trans (hc i hi).1,(kk.cell (p:=⟨g,o+i*2+1,none⟩) hg hn).trans (hc i hi).2⟩⟩
  ·obtain⟨_,_,cur,hb⟩:=Qva hL.opn hg
   exact absurd (h.typed e hb) (by decide)
  ·obtain⟨_,_,cur,hb⟩:=Qva hL.ord hg
   exact absurd (h.typed e hb) (by decide)
  ·obtain⟨es,clock,hb,_⟩:=hJ
   obtain⟨_,_,cur,h3⟩:=Qva h2 e
   have:=hb.symm.trans h3
   injection this with this;cases this
  ·rcases e with e|e
   ·exact(g2 i a b).2.2 g hg (.inl e)
   ·rcases K1 g e with e2|e2
    ·exact(g2 i a b).2.2 g hg (.inr e2)
    ·obtain⟨_,_,hr,_⟩:=(g2 i a b).2.1
     have:=(Qva hr hg).1
     omega
 refine⟨⟨ov',rv',dO,Kl,gX⟩,Hb,fun g hg=>?_,by rw[List.length_append];have:=h.len;unfold Qhb at hl;omega,h.defs.keeps kk (fun g hg e=>h.sep g hg e) ha,h.pos.keeps kk (fun e=>absurd (h.typed e h.pos) (by decide)),⟨x,y,z,ht.keeps kk (fun e=>absurd (h.typed e ht) (by decide))⟩,h.ok,h.keeps.trans kk (fun i hi e=>?_),h.low,fun g hg e=>?_⟩
 ·rcases K1 g hg with e|e
  ·exact h.new g e
  ·omega
 ·have:=h.new i e;omega
 ·rcases K1 g e with e2|e2
  ·exact h.sep g hg e2
  ·obtain⟨_,_,hr,_⟩:=h.defs
   have:=(Qva hr hg).1
   omega
end
theorem Qif.begin{A:Nat→Prop}{w w5:World}{lb mb base:Nat}{fv ov rv ov5 rv5:Value}{F:List QFa}{opn opn2:List Nat}{ord ord2:List ByteArray}{giv:Q4b}(h:Qif A w lb mb base fv ov rv F opn ord giv)(k:Qaa (fun i=>i=lb∨ov.ownBlock=some i∨rv.ownBlock=some i) w w5)
 (hH:Qca w5 lb (ldC fv mb ov5 rv5) 95) (hO:w5.ownsRow base 3 1 ov5 opn2.length (Q4d opn2)) (hR:w5.ownsRow base 9 1 rv5 ord2.length (Qad ord2)) :
 Qif (fun g=>A g∨Value.ownBlock (.slice none 0 0)=some g) w5 lb mb base fv ov5 rv5 F opn2 ord2 giv:=by
 have kS:Qaa (LdS lb mb ov rv) w w5:=k.mono (fun i _ e=>by
  rcases e with e|e|e
  ·exact .inl e
  ·exact .inr (.inr (.inl e))
  ·exact .inr (.inr (.inr e)))
 obtain⟨gvs,hJ,g1,g2⟩:=h.giv
 refine⟨hH,?_,h.low,hO,hR,⟨gvs,hJ.keeps k (fun e=>?_),g1,fun i a b=>⟨(g2 i a b).1,h.fds kS (g2 i a b).2.1,fun g hg e=>?_⟩⟩,h.lbb,h.mbb,Nat.le_trans h.size k.size⟩
 ·obtain⟨a,cap,hv,h3,h4,h5⟩:=h.files
  refine⟨a,cap,hv,h3,h4,fun h0=>?_⟩
  obtain⟨g,o,rfl,hg,hc⟩:=h5 h0
  have hn:¬(g=lb∨ov.ownBlock=some g∨rv.ownBlock=some g):=by
   have e2:=h.low g (by rw[hv];rfl)
   rintro (e|e|e)
   ·have:=h.lbb;omega
   ·have:=(Qva h.opn e).2.1;omega
   ·have:=(Qva h.ord e).2.1;omega
  exact⟨g,o,rfl,Nat.lt_of_lt_of_le hg k.size,fun i hi=>⟨(k.cell (p:=⟨g,o+i*2,none⟩) hg hn).trans (hc i hi).1,(k.cell (p:=⟨g,o+i*2+1,none⟩) hg hn).trans (hc i hi).2⟩⟩
 ·obtain⟨es,clock,hb,_⟩:=hJ
  rcases e with rfl|e|e
  ·have:=hb.symm.trans h.holds
   injection this with this;cases this
  ·obtain⟨_,_,cur,h3⟩:=Qva h.opn e
   have:=hb.symm.trans h3
   injection this with this;cases this
  ·obtain⟨_,_,cur,h3⟩:=Qva h.ord e
   have:=hb.symm.trans h3
   injection this with this;cases this
 ·rcases e with e|e
  ·exact(g2 i a b).2.2 g hg e
  ·cases e
section
variable{A:Nat→Prop}{w0 w:World}{lb mb base pb qb before file:Nat}{fv ov rv dv outv:Value}{F:List QFa}{opn:List Nat}{ord:List ByteArray}{giv:Q4b}{D:List Qra}{out:List FdT}
theorem LdW.fin(h:LdW A lb mb base pb qb fv ov rv dv F (opn++[file]) (file:Int) D before w0 outv ord giv out w)(hA:∀g,A g→g<w0.heap.size)(hF:F.length≤8)(kc:base≤w0.heap.size) :
 ∃g oc rv',Qca w lb (ldC fv mb (.slice (some ⟨g,0,none⟩) (opn.length+1) oc) rv') 95∧opn.length+1≤oc∧oc≤maxLen∧opn.length+1≤8∧∀w6,Qaa (· = lb) w w6→Qca w6 lb (ldC fv mb (.slice (some ⟨g,0,none⟩) opn.length oc) rv') 95→
  ∃o,(Instr.mapUpdate 93 (.map (some mb)) (.int .i64 (file:Int)) outv).run Tryz.prog w6 = .ok () (setBlock w6 mb o)∧Qif A (setBlock w6 mb o) lb mb base fv (.slice (some ⟨g,0,none⟩) opn.length oc) rv' F opn ord (giv++[((file:Int),out)])∧
   Qsa (setBlock w6 mb o) base outv out∧Qca (setBlock w6 mb o) pb #[.int .i64 0,.int .i64 0,.int .i64 0] 27∧Qaa (LdS lb mb ov rv) w0 (setBlock w6 mb o)∧QKi w0 ov (.slice (some ⟨g,0,none⟩) opn.length oc)∧QKi w0 rv rv':=by
 obtain⟨ov',rv',hL,Kl,gX⟩:=h.ld
 have Ga:(opn++[file]).length=opn.length+1:=by simp
 have mg:=h.ok
 have fJ:=mg.short
 obtain⟨g,oc,cur,rfl,fC,nF,bG,sd,se,pS⟩:∃g cap cur,ov' = .slice (some ⟨g,0,none⟩) (opn.length+1) cap∧base≤g∧w.heap[g]? = some (.cells cur 3 (0,0))∧opn.length+1≤cap∧cap≤maxLen∧cur.size=cap*1∧cur.toList.take ((opn.length+1)*1)=Q4d (opn++[file]):=by
  have h2:=hL.opn.2
  rw[Ga]at h2
  rcases h2 with⟨_,e⟩|⟨g,cap,cur,e1,e2,e3,e4,e5,e6,e7⟩
  ·omega
  ·exact⟨g,cap,cur,e1,e2,e3,e4,e5,e6,e7⟩
 refine⟨g,oc,rv',hL.holds,bG,sd,by omega,fun w6 k6 hH6=>?_⟩
 obtain⟨gvs,hJ,g1,g2⟩:=hL.giv
 obtain⟨ks,ek,sw,Js⟩:=mg.keys
 have lB:lb≠mb:=by
  rintro rfl
  obtain⟨es,clock,hb,_⟩:=hJ
  have:=hb.symm.trans hL.holds
  injection this with this;cases this
 have tN:QXc w6 mb gvs:=hJ.keeps k6 (fun e=>lB e.symm)
 have M0:file<F.length:=Js file (by simp)
 have uv:∀p∈gvs,p.1≠(file:Int):=by
  intro p hp e
  obtain⟨i,hi,e2⟩:=List.getElem_of_mem hp
  have e3:=(g2 i (by omega) hi).1
  rw[e2,e]at e3
  have hm:(file:Int)∈giv.map (·.1):=by rw[e3];exact List.mem_map.2 ⟨_,List.getElem_mem _,rfl⟩
  rw[ek,List.mem_map]at hm
  obtain⟨k,hk,ek2⟩:=hm
  obtain rfl:k=file:=by omega
  exact(List.nodup_append.1 sw).2.2 k hk k (by simp) rfl
 obtain⟨o,ho,tO⟩:=tN.put (file:Int) outv (by omega) uv
 refine⟨o,ho,?_⟩
 have k7:Qaa (· = mb) w6 (setBlock w6 mb o):=(Qaa.refl (· = mb) w6).putJ o (.inr rfl)
 have k67:Qaa (fun i=>i=lb∨i=mb) w (setBlock w6 mb o):=(k6.mono (fun _ _ e=>.inl e)).trans k7 (fun _ _ e=>.inr e)
 have kS:Qaa (LdS lb mb (.slice (some ⟨g,0,none⟩) (opn.length+1) oc) rv') w (setBlock w6 mb o):=k67.mono (fun i _ e=>by
  rcases e with e|e
  ·exact .inl e
  ·exact .inr (.inl e))
 have uj:QKi w0 ov (.slice (some ⟨g,0,none⟩) opn.length oc):=fun x hx=>Kl x hx
 have lK:∀{x:Nat} {cs:Array Value} {t:TypeId},Qca w x cs t→t≠95→¬(x=lb∨x=mb):=by
  rintro x cs t hc Hq (rfl|rfl)
  ·have:=hc.symm.trans hL.holds
   injection this with this;injection this with _ this;exact Hq this
  ·obtain⟨es,clock,hb,_⟩:=hJ
   have:=hb.symm.trans hc
   injection this with this;cases this
 have Hb:=hL.fds kS h.row
 have Hl:w.ownsRow base 3 1 (.slice (some ⟨g,0,none⟩) opn.length oc) opn.length (Q4d opn):=by
  refine⟨by simp[Q4d],.inr ⟨g,oc,cur,rfl,fC,nF,by omega,sd,se,?_⟩⟩
  have e1:Q4d opn=(Q4d (opn++[file])).take (opn.length*1):=by simp[Q4d]
  rw[e1,←pS,List.take_take,Nat.min_eq_left (by omega)]
 refine⟨⟨hH6.keeps k7 lB,?_,hL.low,Qba Hl k67 (fun x hx=>?_),Qba hL.ord k67 (fun x hx=>?_),⟨gvs++[((file:Int),outv)],tO,by simp[g1],fun i a b=>?_⟩,hL.lbb,hL.mbb,Nat.le_trans hL.size k67.size⟩,Hb,hL.pos kS h.pos,?_,uj,gX⟩
 ·obtain⟨a,cap,hv,h3,h4,h5⟩:=hL.files
  refine⟨a,cap,hv,h3,h4,fun h0=>?_⟩
  obtain⟨q,o,rfl,hq,hc⟩:=h5 h0
  have hn:¬(q=lb∨q=mb):=by
   have e2:=hL.low q (by rw[hv];rfl)
   have:=hL.lbb
   have:=hL.mbb
   omega
  exact⟨q,o,rfl,Nat.lt_of_lt_of_le hq k67.size,fun i hi=>⟨(k67.cell (p:=⟨q,o+i*2,none⟩) hq hn).trans (hc i hi).1,(k67.cell (p:=⟨q,o+i*2+1,none⟩) hq hn).trans (hc i hi).2⟩⟩
 ·obtain⟨_,_,c2,hb⟩:=Qva Hl hx
  exact lK hb (by decide)
 ·obtain⟨_,_,c2,hb⟩:=Qva hL.ord hx
  exact lK hb (by decide)
 ·by_cases hi:i<giv.length
  ·rw[List.getElem_append_left (by omega),List.getElem_append_left hi]
   exact⟨(g2 i hi (by omega)).1,hL.fds kS (g2 i hi (by omega)).2.1,fun x hx e=>(g2 i hi (by omega)).2.2 x hx (.inl e)⟩
  ·have e1:i=giv.length:=by simp at a;omega
   subst e1
   rw[List.getElem_append_right (by omega),List.getElem_append_right (by omega)]
   simp only[g1,Nat.sub_self,List.getElem_cons_zero]
   exact⟨trivial,Hb,fun x hx e=>by have e1:=h.new x hx;have e2:=hA x e;omega⟩
 ·refine h.keeps.trans k67 (fun i _ e=>?_)
  rcases e with e|e
  ·exact .inl e
  ·exact .inr (.inl e)
end
end Go.Proofs.YtofhcgbihonckaaGreat
namespace Go.Proofs.YtofhcgbihonckaaGreat
open Go.Lib (hid)
open Go.RowKit
theorem Qml:(Tryz.prog.info? 72).map (fun i=>(i.zero,i.size,i.bytes))=some (some (.agg #[.int .i64 0,.string ⟨#[]⟩]),2,24):=by kernel_rfl
theorem Qpj{P:Program}{w:World}{base:Nat}{e e' tx:TypeId}{size n:Nat}{v:Value}{xs:List Value}(hk:P.underlying tx=some (.slice e'))(h:w.ownsRow base e size v n xs)(GD:∀u∈xs,u.oneCell'=true):Src P size tx v n xs w:=by
 rcases id h.2 with⟨rfl,h0⟩|⟨g,cap,cur,rfl,_⟩
 ·subst h0
  have:xs=[]:=List.eq_nil_of_length_eq_zero (by simpa using h.1)
  subst this
  exact Src.ofNil w hk 0
 ·exact Src.ofSlice w hk _ _ _ _ h.1 (h.cells (g:=g) rfl) GD
theorem QCh{w:World}{base:Nat}{e:TypeId}{size n cap:Nat}{xs:List Value}(h:w.ownsRow base e size (.slice none n cap) n xs):n=0∧cap=0∧xs=[]:=by
 rcases h.2 with⟨e1,h0⟩|⟨g,c,cur,e1,_⟩
 ·cases e1
  exact⟨rfl,rfl,List.eq_nil_of_length_eq_zero (by simpa using h.1)⟩
 ·cases e1
theorem QDh{w:World}{base B:Nat}{e:TypeId}{size:Nat}(hB:w.heap.size=B)(hb:base≤B):(w.alloc (.cells #[] e)).ownsRow base e size (.slice (some ⟨B,0,none⟩) 0 0) 0 []:=by
 have:=Q1j (w:=w) (B:=B) (base:=base) (e:=e) (size:=size) (n:=0) (cs:=#[]) hB hb (by simp) (by omega)
 simpa using this
theorem Qik(base:Nat)(v:Value)(n:Nat)(xs:List Value)(w:World)(h:w.ownsRow base 34 7 v n xs)(GD:∀u∈xs,u.oneCell'=true)(hl:n≤10000) :
 Calls Tryz.prog 73 #[v] w fun e w'=>∃v',e = .returned v'∧w'.ownsRow w.heap.size 34 7 v' n xs∧Below w.heap.size w w':=by
 obtain⟨i0,hi,GL,GM,GN⟩:=info_parts QNj
 have q40:∀(w:World) (a:Option Addr) (n c:Nat),(binOp .eql 25 (.slice a n c) (.slice none 0 0)).run Tryz.prog w = .ok (.bool a.isNone) w:=fun w a n c=>Lib.run_eql_slice_nil w _ _ a n c 0 0 Tryz.underlying25
 obtain⟨a,cap,rfl⟩:=Qma h
 cases a with
 | none=>
  obtain⟨rfl,rfl,rfl⟩:=QCh h
  clear h GD
  go_enter Tryz.func73,Tryz.ntmps73
  go_wp2_with fail
  go_ret
  exact⟨_,rfl,World.ownsRow_nil _ _ _ _,Below.refl _ _⟩
 | some ad=>
  have gJ:Below w.heap.size w (w.alloc (.cells #[] 34)):=(Below.refl _ _).alloc (Nat.le_refl _) _
  have HS:=hid (Qpj (P:=Tryz.prog) Tryz.underlying25 (Qba h (Qaa.of_fresh gJ (fun _=>False)) (fun _ _ e=>e)) GD)
  have HR:=hid (QDh (w:=w) (B:=w.heap.size) (base:=w.heap.size) (e:=34) (size:=7) rfl (Nat.le_refl _))
  clear h GD
  go_enter Tryz.func73,Tryz.ntmps73
  go_wp2_with (at_builtin;refine Qqb _ rfl _ _ 25 25 rfl w.heap.size 34 i0 (.agg #[.int .i64 0,.string ⟨#[]⟩,.string ⟨#[]⟩,.slice none 0 0,.int .i64 0,.int .i64 0,.int .i64 0]) 7 88 Tryz.underlying25 hi GL GM GN rfl (.slice (some ⟨w.heap.size,0,none⟩) 0 0) 0 [] rfl (by exact HR.out) _ rfl n xs (by exact HS.out) ?c1 ?c2 ?c3 ?_)
  case c1=>unfold maxLen;omega
  case c2=>omega
  case c3=>simp
  intro v' w5 Hl Ha _
  have mt:=hid (gJ.grown Ha (by simp) (fun q hq=>by have:w.heap.size=q:=Option.some.inj hq;omega))
  have HO:=hid Hl
  clear Hl Ha gJ
  go_wp2_with fail
  go_ret
  exact⟨_,rfl,by simpa using HO.out,mt.out⟩
theorem Q9i(base:Nat)(v:Value)(n:Nat)(xs:List Value)(w:World)(h:w.ownsRow base 75 3 v n xs)(GD:∀u∈xs,u.oneCell'=true)(hl:n≤10000) :
 Calls Tryz.prog 74 #[v] w fun e w'=>∃v',e = .returned v'∧w'.ownsRow w.heap.size 75 3 v' n xs∧Below w.heap.size w w':=by
 obtain⟨i0,hi,GL,GM,GN⟩:=info_parts Quf
 have q40:∀(w:World) (a:Option Addr) (n c:Nat),(binOp .eql 32 (.slice a n c) (.slice none 0 0)).run Tryz.prog w = .ok (.bool a.isNone) w:=fun w a n c=>Lib.run_eql_slice_nil w _ _ a n c 0 0 Tryz.underlying32
 obtain⟨a,cap,rfl⟩:=Qma h
 cases a with
 | none=>
  obtain⟨rfl,rfl,rfl⟩:=QCh h
  clear h GD
  go_enter Tryz.func74,Tryz.ntmps74
  go_wp2_with fail
  go_ret
  exact⟨_,rfl,World.ownsRow_nil _ _ _ _,Below.refl _ _⟩
 | some ad=>
  have gJ:Below w.heap.size w (w.alloc (.cells #[] 75)):=(Below.refl _ _).alloc (Nat.le_refl _) _
  have HS:=hid (Qpj (P:=Tryz.prog) Tryz.underlying32 (Qba h (Qaa.of_fresh gJ (fun _=>False)) (fun _ _ e=>e)) GD)
  have HR:=hid (QDh (w:=w) (B:=w.heap.size) (base:=w.heap.size) (e:=75) (size:=3) rfl (Nat.le_refl _))
  clear h GD
  go_enter Tryz.func74,Tryz.ntmps74
  go_wp2_with (at_builtin;refine Qqb _ rfl _ _ 32 32 rfl w.heap.size 75 i0 (.agg #[.int .i64 0,.slice none 0 0,.string ⟨#[]⟩]) 3 48 Tryz.underlying32 hi GL GM GN rfl (.slice (some ⟨w.heap.size,0,none⟩) 0 0) 0 [] rfl (by exact HR.out) _ rfl n xs (by exact HS.out) ?c1 ?c2 ?c3 ?_)
  case c1=>unfold maxLen;omega
  case c2=>omega
  case c3=>simp
  intro v' w5 Hl Ha _
  have mt:=hid (gJ.grown Ha (by simp) (fun q hq=>by have:w.heap.size=q:=Option.some.inj hq;omega))
  have HO:=hid Hl
  clear Hl Ha gJ
  go_wp2_with fail
  go_ret
  exact⟨_,rfl,by simpa using HO.out,mt.out⟩
theorem QOi(base:Nat)(v:Value)(n:Nat)(xs:List Value)(w:World)(h:w.ownsRow base 72 2 v n xs)(GD:∀u∈xs,u.oneCell'=true)(hl:n≤10000) :
 Calls Tryz.prog 75 #[v] w fun e w'=>∃v',e = .returned v'∧w'.ownsRow w.heap.size 72 2 v' n xs∧Below w.heap.size w w':=by
 obtain⟨i0,hi,GL,GM,GN⟩:=info_parts Qml
 have q40:∀(w:World) (a:Option Addr) (n c:Nat),(binOp .eql 73 (.slice a n c) (.slice none 0 0)).run Tryz.prog w = .ok (.bool a.isNone) w:=fun w a n c=>Lib.run_eql_slice_nil w _ _ a n c 0 0 Tryz.underlying73
 obtain⟨a,cap,rfl⟩:=Qma h
 cases a with
 | none=>
  obtain⟨rfl,rfl,rfl⟩:=QCh h
  clear h GD
  go_enter Tryz.func75,Tryz.ntmps75
  go_wp2_with fail
  go_ret
  exact⟨_,rfl,World.ownsRow_nil _ _ _ _,Below.refl _ _⟩
 | some ad=>
  have gJ:Below w.heap.size w (w.alloc (.cells #[] 72)):=(Below.refl _ _).alloc (Nat.le_refl _) _
  have HS:=hid (Qpj (P:=Tryz.prog) Tryz.underlying73 (Qba h (Qaa.of_fresh gJ (fun _=>False)) (fun _ _ e=>e)) GD)
  have HR:=hid (QDh (w:=w) (B:=w.heap.size) (base:=w.heap.size) (e:=72) (size:=2) rfl (Nat.le_refl _))
  clear h GD
  go_enter Tryz.func75,Tryz.ntmps75
  go_wp2_with (at_builtin;refine Qqb _ rfl _ _ 73 73 rfl w.heap.size 72 i0 (.agg #[.int .i64 0,.string ⟨#[]⟩]) 2 24 Tryz.underlying73 hi GL GM GN rfl (.slice (some ⟨w.heap.size,0,none⟩) 0 0) 0 [] rfl (by exact HR.out) _ rfl n xs (by exact HS.out) ?c1 ?c2 ?c3 ?_)
  case c1=>unfold maxLen;omega
  case c2=>omega
  case c3=>simp
  intro v' w5 Hl Ha _
  have mt:=hid (gJ.grown Ha (by simp) (fun q hq=>by have:w.heap.size=q:=Option.some.inj hq;omega))
  have HO:=hid Hl
  clear Hl Ha gJ
  go_wp2_with fail
  go_ret
  exact⟨_,rfl,by simpa using HO.out,mt.out⟩
theorem Q8l{w:World}{base:Nat}{e:TypeId}{size g n cap:Nat}{xs:List Value}(h:w.ownsRow base e size (.slice (some ⟨g,0,none⟩) n cap) n xs)(k:Nat)(hk:k<n*size)(x:Value):(w.setCell ⟨g,k,none⟩ x).ownsRow base e size (.slice (some ⟨g,0,none⟩) n cap) n (xs.set k x):=by
 refine⟨by rw[List.length_set];exact h.1,?_⟩
 rcases h.2 with⟨e1,_⟩|⟨g',cap',cur,e1,hb,hh,h1,h2,h3,h4⟩
 ·cases e1
 ·cases e1
  refine .inr ⟨g,cap,cur.setIfInBounds k x,rfl,hb,heap_setCell_same w g k cur e x hh,h1,h2,by simpa using h3,?_⟩
  rw[←h4]
  simp[List.take_set]
theorem QUf:∀(l:List FdT) (vs:List Value) (i:Nat) (v:Value),vs.length=l.length→(QGa l vs).set (i*7+3) v=QGa l (vs.set i v)
 | [],[],i,v,_=>by simp[QGa]
 | x::xs,u::us,0,v,_=>by simp[QGa]
 | x::xs,u::us,i+1,v,h=>by
  rw[show(i+1)*7+3=(i*7+3)+7 from by omega]
  simp only[QGa,List.set_cons_succ,List.cons.injEq,true_and]
  exact QUf xs us i v (by simpa using h)
theorem QCe:∀(l:List QRa) (vs:List Value) (i:Nat) (v:Value),vs.length=l.length→(Qza l vs).set (i*3+1) v=Qza l (vs.set i v)
 | [],[],i,v,_=>by simp[Qza]
 | x::xs,u::us,0,v,_=>by simp[Qza]
 | x::xs,u::us,i+1,v,h=>by
  rw[show(i+1)*3+1=(i*3+1)+3 from by omega]
  simp only[Qza,List.set_cons_succ,List.cons.injEq,true_and]
  exact QCe xs us i v (by simpa using h)
theorem QBe:∀(l:List QRa) (vs:List Value),(∀u∈vs,u.oneCell'=true)→∀u∈Qza l vs,u.oneCell'=true
 | [],_,_,u,hu=>by simp[Qza]at hu
 | x::xs,[],_,u,hu=>by simp[Qza]at hu
 | x::xs,v::vs,h,u,hu=>by
  simp only[Qza,List.mem_cons]at hu
  rcases hu with rfl|rfl|rfl|hu
  ·rfl
  ·exact h _ List.mem_cons_self
  ·rfl
  ·exact QBe xs vs (fun u hu=>h u (List.mem_cons_of_mem _ hu)) u hu
theorem Q2g(cs:List Qzb):∀u∈Qtb cs,u.oneCell'=true:=by
 intro u hu
 unfold Qtb at hu
 obtain⟨c,_,hc⟩:=List.mem_flatMap.1 hu
 simp only[List.mem_cons,List.not_mem_nil,or_false]at hc
 rcases hc with rfl|rfl <;> rfl
theorem QRe{w w':World}{g o:Nat}{x:Option Value}(h:w.cell? ⟨g,o,none⟩=x)(hg:g<w.heap.size)(k:Below w.heap.size w w'):w'.cell? ⟨g,o,none⟩=x:=(k.cell (p:=⟨g,o,none⟩) hg).trans h
structure QZp(w:World)(base g cap:Nat)(out:List FdT)(vs us:List Value)(i:Nat)(wr:World):Prop where
 len:us.length=out.length
 row:wr.ownsRow w.heap.size 34 7 (.slice (some ⟨g,0,none⟩) out.length cap) out.length (QGa out us)
 done:∀j (h:j<out.length) (h2:j<us.length),j<i→Qia wr w.heap.size us[j] out[j].2.parts
 left:∀j,i≤j→us[j]? = vs[j]?
 below:Below w.heap.size w wr
structure QLn(w:World)(base g cap:Nat)(out:List FdT)(vs us:List Value)(i:Nat)(ps:List QRa)(pv:Value)(cs ds:List Value)(k:Nat)(wr:World):Prop where
 len:us.length=out.length
 row:wr.ownsRow w.heap.size 34 7 (.slice (some ⟨g,0,none⟩) out.length cap) out.length (QGa out us)
 here:us[i]? = some pv
 part:wr.ownsRow w.heap.size 75 3 pv ps.length (Qza ps ds)
 plen:ds.length=ps.length
 pdone:∀j (h:j<ps.length) (h2:j<ds.length),j<k→Qea wr w.heap.size ds[j] ps[j].cells
 pleft:∀j,k≤j→ds[j]? = cs[j]?
 done:∀j (h:j<out.length) (h2:j<us.length),j<i→Qia wr w.heap.size us[j] out[j].2.parts∧∀b,us[j].ownBlock=some b→pv.ownBlock≠some b
 left:∀j,i<j→us[j]? = vs[j]?
 below:Below w.heap.size w wr
theorem Qia.keep3{w w':World}{base:Nat}{v:Value}{ps:List QRa}{S:Nat→Prop}(h:Qia w base v ps)(k:Qaa S w w')(hs:∀b,v.ownBlock=some b→¬S b)(ha:∀b,S b→∃cs t,Qca w b cs t∧t≠72):Qia w' base v ps:=by
 obtain⟨us,u1,u2,u3⟩:=h
 exact⟨us,u1,Qba u2 k hs,fun i hi kU=>Qba (u3 i hi kU) k (fun b hb hS=>by
  obtain⟨cs,t,hc,Hq⟩:=ha b hS
  obtain⟨_,_,cur,Kc⟩:=Qva (u3 i hi kU) hb
  have:=Kc.symm.trans hc
  injection this with this;injection this with _ this;exact Hq this.symm)⟩
section
variable{w wr:World}{base g cap i k:Nat}{out:List FdT}{vs us:List Value}{ps:List QRa}{pv:Value}{cs ds:List Value}
theorem QZp.open1(h:QZp w base g cap out vs us i wr)(hi:i<out.length){w2:World}(hb:Below wr.heap.size wr w2)(hp:w2.ownsRow wr.heap.size 75 3 pv ps.length (Qza ps cs))(hc:cs.length=ps.length) :
 QLn w base g cap out vs (us.set i pv) i ps pv cs cs 0 (w2.setCell ⟨g,i*7+3,none⟩ pv):=by
 have gj:=Qba h.row (Qaa.of_fresh hb (fun _=>False)) (fun _ _ e=>e)
 have eQ:=h.below.size
 obtain⟨se,fC⟩:=gj.lt g rfl
 obtain⟨_,_,cur,bG⟩:=Qva gj (b:=g) rfl
 have hl:=h.len
 have hk:Qaa (· = g) w2 (w2.setCell ⟨g,i*7+3,none⟩ pv):=(Qaa.refl (· = g) w2).setCell (p:=⟨g,i*7+3,none⟩) (.inr rfl) pv
 refine⟨by rw[List.length_set];exact hl,?_,by rw[List.getElem?_set_self (by omega)],Qpd (Qba hp hk (fun b Hn e=>?_)) eQ,hc,fun j _ _ e=>absurd e (by omega),fun j _=>rfl,fun j hj Gf hji=>?_,fun j hj=>?_,?_⟩
 ·rw[←QUf out us i pv hl]
  exact Q8l gj _ (by omega) pv
 ·subst e
  obtain⟨_,_,c2,Kc⟩:=Qva hp Hn
  have:=Kc.symm.trans bG
  injection this with this;injection this with _ this;exact absurd this (by decide)
 ·rw[List.length_set]at Gf
  have e1:(us.set i pv)[j]'(by rw[List.length_set];exact Gf)=us[j]:=by rw[List.getElem_set_ne (by omega)]
  rw[e1]
  have hd:=h.done j hj Gf hji
  refine⟨(hd.keep2 (Qaa.of_fresh hb (fun _=>False)) (fun _ _ e=>e.elim)).keep3 hk (fun b Hn e=>?_) (fun b e=>by subst e;exact⟨_,_,bG,by decide⟩),fun b Hn e=>?_⟩
  ·subst e
   obtain⟨_,_,hr,_⟩:=hd
   obtain⟨_,_,c2,Kc⟩:=Qva hr Hn
   have:=(hb.block _ (lt_of_block Kc)).trans Kc
   have:=this.symm.trans bG
   injection this with this;injection this with _ this;exact absurd this (by decide)
  ·obtain⟨_,_,hr,_⟩:=hd
   have h1:=(Qva hr Hn).1
   have h2:=(Qva hp e).2.1
   omega
 ·rw[List.getElem?_set_ne (by omega)];exact h.left j (by omega)
 ·exact(h.below.trans (hb.mono eQ)).setCell (p:=⟨g,i*7+3,none⟩) (by have:=(h.row.lt g rfl).1;omega) pv
theorem QLn.step{gp pc:Nat}(h:QLn w base g cap out vs us i ps (.slice (some ⟨gp,0,none⟩) ps.length pc) cs ds k wr)(hk:k<ps.length){w2:World}{cv:Value}(hb:Below wr.heap.size wr w2)(hp:Qea w2 wr.heap.size cv ps[k].cells) :
 QLn w base g cap out vs us i ps (.slice (some ⟨gp,0,none⟩) ps.length pc) cs (ds.set k cv) (k+1) (w2.setCell ⟨gp,k*3+1,none⟩ cv):=by
 have kf:=Qaa.of_fresh hb (fun _=>False)
 have gj:=Qba h.row kf (fun _ _ e=>e)
 have aB:=Qba h.part kf (fun _ _ e=>e)
 have eQ:=h.below.size
 have J7:=h.plen
 obtain⟨_,_,cur,bG⟩:=Qva aB (b:=gp) rfl
 have Ht:Qaa (· = gp) w2 (w2.setCell ⟨gp,k*3+1,none⟩ cv):=(Qaa.refl (· = gp) w2).setCell (p:=⟨gp,k*3+1,none⟩) (.inr rfl) cv
 have kE:∀{u:Value} {c:List Qzb} {b0:Nat},Qea w2 b0 u c→Qea (w2.setCell ⟨gp,k*3+1,none⟩ cv) b0 u c:=by
  intro u c b0 hu
  refine Qba hu Ht (fun b Hn e=>?_)
  subst e
  obtain⟨_,_,c2,Kc⟩:=Qva hu Hn
  have:=Kc.symm.trans bG
  injection this with this;injection this with _ this;exact absurd this (by decide)
 refine⟨h.len,Qba gj Ht (fun b Hn e=>?_),h.here,?_,by rw[List.length_set];exact J7,fun j hj Gf ls=>?_,fun j hj=>?_,fun j hj Gf hji=>?_,h.left,?_⟩
 ·subst e
  obtain⟨_,_,c2,Kc⟩:=Qva gj Hn
  have:=Kc.symm.trans bG
  injection this with this;injection this with _ this;exact absurd this (by decide)
 ·rw[←QCe ps ds k cv J7]
  exact Q8l aB _ (by omega) cv
 ·have sk:j<ds.length:=by simpa using Gf
  by_cases e:j=k
  ·subst e
   have e1:(ds.set j cv)[j]'Gf=cv:=by rw[List.getElem_set_self]
   rw[e1]
   exact(kE hp).lower eQ
  ·have e1:(ds.set k cv)[j]'Gf=ds[j]:=by rw[List.getElem_set_ne (by omega)]
   rw[e1]
   exact kE (Qba (h.pdone j hj sk (by omega)) kf (fun _ _ e=>e))
 ·rw[List.getElem?_set_ne (by omega)];exact h.pleft j (by omega)
 ·obtain⟨hd,Hq⟩:=h.done j hj Gf hji
  exact⟨(hd.keep2 kf (fun _ _ e=>e.elim)).keep3 Ht (fun b Hn e=>by subst e;exact Hq _ Hn rfl) (fun b e=>by subst e;exact⟨_,_,bG,by decide⟩),Hq⟩
 ·exact(h.below.trans (hb.mono eQ)).setCell (p:=⟨gp,k*3+1,none⟩) (by have:=(h.part.lt gp rfl).1;omega) cv
theorem QLn.close1(h:QLn w base g cap out vs us i ps pv cs ds ps.length wr)(hi:i<out.length)(he:out[i].2.parts=ps):QZp w base g cap out vs us (i+1) wr:=by
 refine⟨h.len,h.row,fun j hj Gf hji=>?_,fun j hj=>h.left j (by omega),h.below⟩
 by_cases e:j=i
 ·subst e
  have e1:us[j]=pv:=by have:=h.here;rw[List.getElem?_eq_getElem Gf]at this;exact Option.some.inj this
  rw[e1,he]
  exact⟨ds,h.plen,h.part,fun k hk Ho=>h.pdone k hk Ho hk⟩
 ·exact(h.done j hj Gf (by omega)).1
end
theorem QCg{w:World}{base:Nat}{e:TypeId}{size g n cap:Nat}{xs:List Value}(h:w.ownsRow base e size (.slice (some ⟨g,0,none⟩) n cap) n xs)(j:Nat):w.frozen? ⟨g,j,none⟩=false:=h.frozenAt j
set_option maxRecDepth 100000 in
theorem Qlk(base:Nat)(v:Value)(out:List FdT)(w:World)(h:Qsa w base v out)(hl:out.length≤6000)(mg:∀x∈out,OkD x.2) :
 Calls Tryz.prog 41 #[v] w fun e w'=>∃v',e = .returned v'∧Qsa w' w.heap.size v' out∧Below w.heap.size w w':=by
 obtain⟨vs,h1,h2,h3⟩:=h
 have GD:∀u∈vs,u.oneCell'=true:=by
  intro u hu
  obtain⟨k,hk,rfl⟩:=List.getElem_of_mem hu
  obtain⟨a,c,e⟩:=(h3 k (by omega) hk).slice
  rw[e];rfl
 have be:=hid (Qik base v out.length (QGa out vs) w h2 (Qbe out vs GD) (by omega))
 have H3:=hid h3
 have Kh:=hid mg
 have hvs:vs.length≤6000:=by omega
 have H1:=hid h1
 clear h2 h3 mg GD h1
 go_enter Tryz.func41,Tryz.ntmps41
 go_wp2_with fail
 refine(by exact be.out:Calls _ _ _ _ _).mono ?_
 rintro e w1 ⟨v',rfl,Hb,He⟩
 obtain⟨va,vc,rfl⟩:=Qma Hb
 by_cases h0:out.length=0
 ·have az:out=[]:=List.length_eq_zero_iff.1 h0
  subst az
  have kN:=hid Hb
  have MQ:=hid He
  clear Hb He h0
  go_wp2_with fail
  go_loopg [9] 1 (fun f x wr=>x = .int .i64 0∧w1=wr)
  case atStart=>exact⟨rfl,rfl⟩
  case round=>
   obtain⟨rfl,rfl⟩:=hrel
   go_wp2_with fail
   go_ret
   exact⟨_,rfl,⟨[],rfl,by simpa[QGa]using kN.out,fun k hk=>by cases hk⟩,MQ.out⟩
 ·obtain⟨g,cap,e1,_,_,_⟩:=QWd Hb (by omega)
  cases e1
  have kN:=hid Hb
  have MQ:=hid He
  clear Hb He
  go_wp2_with fail
  go_loopg [9] (out.length) (fun f x wr=>∃(i:Nat) (us:List Value),x = .int .i64 i∧i≤out.length∧out.length≤i+f∧QZp w base g vc out vs us i wr)
  case atStart=>exact⟨0,vs,rfl,by omega,by omega,H1.out,kN.out,fun j _ _ e=>absurd e (by omega),fun j _=>rfl,MQ.out⟩
  case round=>
   obtain⟨i,us,rfl,GV,kU,hS⟩:=hrel
   obtain⟨io,rfl⟩:∃x:Nat,x=i:=⟨_,rfl⟩
   obtain⟨go,rfl⟩:∃x:Nat,x=gk:=⟨_,rfl⟩
   obtain⟨wo,rfl⟩:∃x:World,x=wr:=⟨_,rfl⟩
   by_cases Hj:io<out.length
   ·have mh:=hS.len
    have Hk:=hS.below
    have Jv:=hS.row
    have e5:us[io]'(by omega)=vs[io]'(by have:=H1.out;omega):=by
     have:=hS.left io (Nat.le_refl _)
     rw[List.getElem?_eq_getElem (by omega),List.getElem?_eq_getElem (by have:=H1.out;omega)]at this
     exact Option.some.inj this
    have sz:=H3.out io Hj (by have:=H1.out;omega)
    rw[←e5]at sz
    have ue:=Kh.out out[io] (List.getElem_mem Hj)
    obtain⟨cs,c1,c2w,c3⟩:=sz
    have c2:=Qba c2w (Qaa.of_fresh Hk (fun _=>False)) (fun _ _ e=>e)
    clear c2w
    have kX:wo.cell? ⟨g,io*7+3,none⟩=some us[io]:=by rw[Jv.cellAt _ (by omega)];exact(Q4c out us io Hj (by omega) mh).2.2.2.1
    have lp:=(Jv.lt g rfl).2
    have rY:=QCg Jv (io*7+3)
    obtain⟨ps,Gx⟩:∃ps,ps=out[io].2.parts:=⟨_,rfl⟩
    rw[←Gx]at c1 c2
    have i4:∀u∈cs,u.oneCell'=true:=by
     intro u hu
     obtain⟨k,hk,rfl⟩:=List.getElem_of_mem hu
     obtain⟨a,c,e⟩:=(c3 k (by rw[←Gx];omega) hk).slice
     rw[e];rfl
    obtain⟨jB,cr⟩:=ue
    rw[←Gx]at jB cr
    have cO:=hid (show ∀k (h:k<ps.length) (h2:k<cs.length),Qea w base cs[k] ps[k].cells from fun k h h2=>by subst Gx;exact c3 k h h2)
    have jM:=hid cr
    obtain⟨pa0,pc0,e0⟩:=Qma c2
    have qW:=hid (Q9i base us[io] ps.length (Qza ps cs) wo c2 (QBe ps cs i4) (by omega))
    have HS:=hid hS
    have s8:=hid Gx
    have ni:=hid c1
    have pU:(io:Int)<(out.length:Int):=by omega
    rw[e0]at kX qW
    clear hS e0 mh Hk Jv e5 c1 c2 c3 Gx i4 cr
    go_wp2_with fail
    refine(by exact qW.out:Calls _ _ _ _ _).mono ?_
    rintro e w2 ⟨pv,rfl,Jg,Hn⟩
    obtain⟨pa,pc,rfl⟩:=Qma Jg
    have Kc:=QRe kX lp Hn
    have ab:=(Hn.frozen (p:=⟨g,io*7+3,none⟩) lp).trans rY
    have pR:=Nat.lt_of_lt_of_le lp Hn.size
    have HM:=hid (HS.out.open1 Hj Hn Jg ni.out)
    clear Jg Hn kX rY
    go_upto_region 6 with fail
    generalize w2.setCell ⟨g,io*7+3,none⟩ (.slice pa ps.length pc)=w3 at *
    have ss:w3.cell? ⟨g,io*7+3,none⟩=some (.slice pa ps.length pc):=by
     have hr:=HM.out.row
     have lA:=HM.out.len
     rw[hr.cellAt _ (by omega),(Q4c out _ io Hj (by omega) lA).2.2.2.1]
     have:=HM.out.here
     rw[List.getElem?_eq_getElem (by omega)]at this
     exact this
    have lG:=(HM.out.row.lt g rfl).2
    clear Kc ab pR
    go_wp2_with fail
    go_loopg [28] (ps.length) (fun f x wr=>∃(k:Nat) (ds:List Value),x = .int .i64 k∧k≤ps.length∧ps.length≤k+f∧QLn w base g vc out vs (us.set io (.slice pa ps.length pc)) io ps (.slice pa ps.length pc) cs ds k wr)
    case atStart=>exact⟨0,cs,rfl,by omega,by omega,HM.out⟩
    case round=>
     clear ss lG
     obtain⟨k,ds,rfl,Ht,Ho,hM⟩:=hrel
     have tM:=hid hM
     by_cases hklt:k<ps.length
     ·have eE:=hM.plen
      have aA:=hM.part
      have Hb:=hM.row
      have lA:=hM.len
      obtain⟨gp,cp,e6,gpl,_,pJ⟩:=QWd aA (by omega)
      cases e6
      have e8:ds[k]'(by omega)=cs[k]'(by have:=ni.out;omega):=by
       have:=hM.pleft k (Nat.le_refl _)
       rw[List.getElem?_eq_getElem (by omega),List.getElem?_eq_getElem (by have:=ni.out;omega)]at this
       exact Option.some.inj this
      have kE:Qea wr base ds[k] ps[k].cells:=by
       rw[e8]
       exact Qba (cO.out k hklt (by have:=ni.out;omega)) (Qaa.of_fresh hM.below (fun _=>False)) (fun _ _ e=>e)
      have d0:wr.cell? ⟨g,io*7+3,none⟩=some (.slice (some ⟨gp,0,none⟩) ps.length pc):=by
       rw[Hb.cellAt _ (by omega),(Q4c out _ io Hj (by omega) lA).2.2.2.1]
       have:=hM.here
       rw[List.getElem?_eq_getElem (by omega)]at this
       exact this
      have d1:wr.cell? ⟨gp,k*3+1,none⟩=some ds[k]:=(pJ _ (by omega)).trans (QFd ps ds k hklt (by omega) eE).2.1
      have df:=QCg aA (k*3+1)
      have gl:=(Hb.lt g rfl).2
      have cz:(k:Int)<(ps.length:Int):=by omega
      obtain⟨ca,cc,e7⟩:=kE.slice
      rw[e7]at d1 kE
      have kh:=jM.out ps[k] (List.getElem_mem hklt)
      have qX:=hid (show ∀(w7:World) (cv:Value),Below wr.heap.size wr w7→Qea w7 wr.heap.size cv ps[k].cells→QLn w base g vc out vs (us.set io (.slice (some ⟨gp,0,none⟩) ps.length pc)) io ps (.slice (some ⟨gp,0,none⟩) ps.length pc) cs (ds.set k cv) (k+1) (w7.setCell ⟨gp,k*3+1,none⟩ cv)from fun w7 cv h1 h2=>hM.step hklt h1 h2)
      unfold Qea at kE qX
      generalize ps[k].cells=pk at *
      have sK:=hid (fun(wx:World) (hx:wx.ownsRow base 72 2 (.slice ca pk.length cc) pk.length (Qtb pk))=>QOi base (.slice ca pk.length cc) pk.length (Qtb pk) wx hx (Q2g pk) (by omega))
      have sL:=hid kE
      clear hM e7 e8 eE aA Hb lA kE pJ
      go_upto_region 9 with fail
      go_region_with (go_at_call 75;refine(sK.out _ (by exact sL.out.drew)).mono ?_;rintro e w7 ⟨rv,rfl,Hl,GO⟩;obtain⟨rva,rvc,qp⟩:=Qma Hl;subst qp;have Gv:Below wr.heap.size wr w7:=(Below.refl wr.heap.size wr).drew.trans GO;have kx:=QRe d0 gl Gv;have kd:=QRe d1 gpl Gv;have kz:=(Gv.frozen (p:=⟨gp,k*3+1,none⟩) gpl).trans df;have kl:=Nat.lt_of_lt_of_le gpl Gv.size;have kgl:=Nat.lt_of_lt_of_le gl Gv.size)
      all_goals
       have gP:=hid (qX.out _ _ Gv Hl)
       clear GO Hl Gv
       go_wp2_with fail
       go_roundg (gk-1)
       case measure=>omega
       case rel=>exact⟨k+1,_,by go_num,by omega,by omega,gP.out⟩
     ·obtain rfl:k=ps.length:=by omega
      have KU:=hid (hM.close1 Hj s8.out.symm)
      clear hM tM
      go_wp2_with fail
      go_roundg (go-1)
      case measure=>omega
      case rel=>exact⟨io+1,_,by go_num,by omega,by omega,KU.out⟩
   ·obtain rfl:io=out.length:=by omega
    have HF:=hid (show Qsa wo w.heap.size (.slice (some ⟨g,0,none⟩) out.length vc) out from⟨us,hS.len,hS.row,fun j hj Gf=>hS.done j hj Gf hj⟩)
    have HB:=hid hS.below
    clear hS
    go_wp2_with fail
    go_ret
    exact⟨_,rfl,HF.out,HB.out⟩
noncomputable def QSk(n:Nat):Code:=(Q8h (Tryz.f72.body.getD .skip) n).getD .skip
set_option maxRecDepth 100000 in
theorem Qfq{Q:Exit→Act→World→Prop}(A:Nat→Prop)(fuel lb mb base pb qb eb before file:Nat)(fv ov rv dv outv mv0 pv:Value)(F:List QFa)(opn2:List Nat)(ord:List ByteArray)(giv:Q4b)(D:List Qra)(out:List FdT)(d:Qra)(rest:List FdT)(w0 w:World)(hrec:Hid (Q1g fuel))(hF:F.length≤8)(hT:Hid (∀f∈F,f.text.size≤maxLen∧f.name.size≤maxLen))(mx:F.length<opn2.length+fuel)(He:0<base)(kc:base≤w0.heap.size)(Kt:Hid (Qhf w0))(hA:Hid (∀g,A g→g<w0.heap.size))(Jf:Hid (∀i,LdS lb mb ov rv i→base≤i))(hk:d.kind≠6){u3 u4 u5 u6 u8 u9 u11 u13 u16 u17 u18 u19 u20 u21 u22 u23 u24 u25 u26 u27 u28 u29 u30 u31 u32 u33 u34 u35 u36 u37 u38 u39 u40 u41 u42 u43 u44 u45 u46 u47 u48 u49 u50 u51 u52 u53 u54 u55 u56 u57 u58 u59 u60 u61 u62 u63 u64 u65 u66 u67 u68 u69 u70 u71 u72 u73 u74 u76 u77 u78 u79 u80 u81 u82 u83 u84 u85 u86 u87 u88 u89 u90 u91 u92 u93 u94 u95 u96 u97 u98 u99 u100 u101 u102 u103 u104 u105 u106 u107 u108 u109 u110 u111 u112 u113 u114 u115 u116 u117 u118 u119 u120 u121 u122 u123 u124 u125 u126 u127 u128 u129 u130 u131 u132 u133 u134 u135 u136 u137 u138 u139 u140 u141 u142 u143 u144 u145 u146 u147 u148 u149 u150 u151 u152 u153 u154 u155 u156 u157 u158:Value}
 (hW:Hid (LdW A lb mb base pb qb fv ov rv dv F opn2 (file:Int) D before w0 outv ord giv out w)) (hE:Hid (Qca w eb #[.int .i64 d.kind,.string d.label,.string d.name,pv,.int .i64 (file:Int),.int .i64 d.line,.int .i64 d.col] 34)) (hM:Hid (Qsa w base mv0 [((file:Int),d)])) (j9:Hid (∀g,mv0.ownBlock=some g→outv.ownBlock≠some g))
 (hQ:Hid (∀(x11 x15 x16 x17 x18 x75 x76 x77 x78 x79 x80 x81 x84 x85 x86 x87 x88 x89 x92 x93 x94 x95 x96 x97 x98 x99 x100 x101 x102 x103 x104 x105 x106 x107 x108 x109 x110 x111 x112 x113 x114 x115 x118:Value) (wx:World) (ord':List ByteArray) (giv':Q4b) (m:List FdT),LdW A lb mb base pb qb fv ov rv dv F opn2 (file:Int) D before w0 outv ord' giv' out wx→Qsa wx base x15 m→(∀g,x15.ownBlock=some g→outv.ownBlock≠some g)→m.length≤6000→QAa (ldT F fuel opn2) F opn2 before (((file:Int),d)::rest) ord giv out=(if Qhb before out<m.length then .error (Qbj (m.getD (Qhb before out) Qnf),3)else QAa (ldT F fuel opn2) F opn2 before rest ord' giv' (out++m))→Q .normal ⟨#[.pointer (some ⟨lb,0,none⟩),.int .i64 (file:Int),.int .i64 (before:Int),u3,u4,u5,u6,.pointer (some ⟨pb,0,none⟩),u8,u9,.pointer (some ⟨qb,0,none⟩),x11,outv,u13,.pointer (some ⟨eb,0,none⟩),x15,x16,x17,x18,u19,u20,u21,u22,u23,u24,u25,u26,u27,u28,u29,u30,u31,u32,u33,u34,u35,u36,u37,u38,u39,u40,u41,u42,u43,u44,u45,u46,u47,u48,u49,u50,u51,u52,u53,u54,u55,u56,u57,u58,u59,u60,u61,u62,u63,u64,u65,u66,u67,u68,u69,u70,u71,u72,u73,u74,x75,x76,x77,x78,x79,x80,x81,u82,u83,x84,x85,x86,x87,x88,x89,u90,u91,x92,x93,x94,x95,x96,x97,x98,x99,x100,x101,x102,x103,x104,x105,x106,x107,x108,x109,x110,x111,x112,x113,x114,x115,u116,u117,x118,u119,u120,u121,u122,u123,u124,u125,u126,u127,u128,u129,u130,u131,u132,u133,u134,u135,u136,u137,u138,u139,u140,u141,u142,u143,u144,u145,u146,u147,u148,u149,u150,u151,u152,u153,u154,u155,u156,u157,u158],[]⟩ wx))
 (hQE:Hid (∀(c:Array Value) (wx:World) (p:QOk) (er:Int),c[6]? = some (.slice none 0 0)→c[7]? = some (.pointer (some ⟨pb,0,none⟩))→c[8]? = some (.int .i64 er)→Qca wx pb #[.int .i64 p.1,.int .i64 p.2.1,.int .i64 p.2.2] 27→Qaa (LdS lb mb ov rv) w0 wx→QAa (ldT F fuel opn2) F opn2 before (((file:Int),d)::rest) ord giv out = .error (p,er)→Q .ret ⟨c,[]⟩ wx)) :
 (QSk 75).wp Tryz.prog Q ⟨#[.pointer (some ⟨lb,0,none⟩),.int .i64 (file:Int),.int .i64 (before:Int),u3,u4,u5,u6,.pointer (some ⟨pb,0,none⟩),u8,u9,.pointer (some ⟨qb,0,none⟩),u11,outv,u13,.pointer (some ⟨eb,0,none⟩),mv0,u16,u17,u18,u19,u20,u21,u22,u23,u24,u25,u26,u27,u28,u29,u30,u31,u32,u33,u34,u35,u36,u37,u38,u39,u40,u41,u42,u43,u44,u45,u46,u47,u48,u49,u50,u51,u52,u53,u54,u55,u56,u57,u58,u59,u60,u61,u62,u63,u64,u65,u66,u67,u68,u69,u70,u71,u72,u73,u74,.bool (d.kind == 6),u76,u77,u78,u79,u80,u81,u82,u83,u84,u85,u86,u87,u88,u89,u90,u91,u92,u93,u94,u95,u96,u97,u98,u99,u100,u101,u102,u103,u104,u105,u106,u107,u108,u109,u110,u111,u112,u113,u114,u115,u116,u117,u118,u119,u120,u121,u122,u123,u124,u125,u126,u127,u128,u129,u130,u131,u132,u133,u134,u135,u136,u137,u138,u139,u140,u141,u142,u143,u144,u145,u146,u147,u148,u149,u150,u151,u152,u153,u154,u155,u156,u157,u158],[]⟩ w:=by
 simp only[QSk,Q8h,Tryz.f72,Option.getD_some,reduceIte,Nat.reduceEqDiff]
 have kA:(d.kind == 6)=false:=by simpa using hk
 have Jp:=hid (Qwe (go:=ldT F fuel opn2) (F:=F) (opn:=opn2) (before:=before) (d:=((file:Int),d)) (r:=rest) (ord:=ord) (giv:=giv) (out:=out) hk)
 clear hk
 go_wp2_with fail
 exact hQ.out _ _ _ _ _ _ _ _ _ _ _ _ _ _ _ _ _ _ _ _ _ _ _ _ _ _ _ _ _ _ _ _ _ _ _ _ _ _ _ _ _ _ _ _ ord giv [((file:Int),d)] hW.out hM.out j9.out (by simp) Jp.out
set_option maxRecDepth 100000 in
theorem Qso{Q:Exit→Act→World→Prop}(A:Nat→Prop)(fuel lb mb base pb qb eb before file:Nat)(fv ov rv dv outv mv0 pv:Value)(F:List QFa)(opn2:List Nat)(ord:List ByteArray)(giv:Q4b)(D:List Qra)(out:List FdT)(d:Qra)(rest:List FdT)(w0 w:World)(hrec:Hid (Q1g fuel))(hF:F.length≤8)(hT:Hid (∀f∈F,f.text.size≤maxLen∧f.name.size≤maxLen))(mx:F.length<opn2.length+fuel)(He:0<base)(kc:base≤w0.heap.size)(Kt:Hid (Qhf w0))(hA:Hid (∀g,A g→g<w0.heap.size))(Jf:Hid (∀i,LdS lb mb ov rv i→base≤i))(hk:d.kind=6)(hf:QYb F d.name=none){u3 u4 u5 u6 u8 u9 u11 u13 u16 u17 u18 u19 u20 u21 u22 u23 u24 u25 u26 u27 u28 u29 u30 u31 u32 u33 u34 u35 u36 u37 u38 u39 u40 u41 u42 u43 u44 u45 u46 u47 u48 u49 u50 u51 u52 u53 u54 u55 u56 u57 u58 u59 u60 u61 u62 u63 u64 u65 u66 u67 u68 u69 u70 u71 u72 u73 u74 u76 u77 u78 u79 u80 u81 u82 u83 u84 u85 u86 u87 u88 u89 u90 u91 u92 u93 u94 u95 u96 u97 u98 u99 u100 u101 u102 u103 u104 u105 u106 u107 u108 u109 u110 u111 u112 u113 u114 u115 u116 u117 u118 u119 u120 u121 u122 u123 u124 u125 u126 u127 u128 u129 u130 u131 u132 u133 u134 u135 u136 u137 u138 u139 u140 u141 u142 u143 u144 u145 u146 u147 u148 u149 u150 u151 u152 u153 u154 u155 u156 u157 u158:Value}
 (hW:Hid (LdW A lb mb base pb qb fv ov rv dv F opn2 (file:Int) D before w0 outv ord giv out w)) (hE:Hid (Qca w eb #[.int .i64 d.kind,.string d.label,.string d.name,pv,.int .i64 (file:Int),.int .i64 d.line,.int .i64 d.col] 34)) (hM:Hid (Qsa w base mv0 [((file:Int),d)])) (j9:Hid (∀g,mv0.ownBlock=some g→outv.ownBlock≠some g))
 (hQ:Hid (∀(x11 x15 x16 x17 x18 x75 x76 x77 x78 x79 x80 x81 x84 x85 x86 x87 x88 x89 x92 x93 x94 x95 x96 x97 x98 x99 x100 x101 x102 x103 x104 x105 x106 x107 x108 x109 x110 x111 x112 x113 x114 x115 x118:Value) (wx:World) (ord':List ByteArray) (giv':Q4b) (m:List FdT),LdW A lb mb base pb qb fv ov rv dv F opn2 (file:Int) D before w0 outv ord' giv' out wx→Qsa wx base x15 m→(∀g,x15.ownBlock=some g→outv.ownBlock≠some g)→m.length≤6000→QAa (ldT F fuel opn2) F opn2 before (((file:Int),d)::rest) ord giv out=(if Qhb before out<m.length then .error (Qbj (m.getD (Qhb before out) Qnf),3)else QAa (ldT F fuel opn2) F opn2 before rest ord' giv' (out++m))→Q .normal ⟨#[.pointer (some ⟨lb,0,none⟩),.int .i64 (file:Int),.int .i64 (before:Int),u3,u4,u5,u6,.pointer (some ⟨pb,0,none⟩),u8,u9,.pointer (some ⟨qb,0,none⟩),x11,outv,u13,.pointer (some ⟨eb,0,none⟩),x15,x16,x17,x18,u19,u20,u21,u22,u23,u24,u25,u26,u27,u28,u29,u30,u31,u32,u33,u34,u35,u36,u37,u38,u39,u40,u41,u42,u43,u44,u45,u46,u47,u48,u49,u50,u51,u52,u53,u54,u55,u56,u57,u58,u59,u60,u61,u62,u63,u64,u65,u66,u67,u68,u69,u70,u71,u72,u73,u74,x75,x76,x77,x78,x79,x80,x81,u82,u83,x84,x85,x86,x87,x88,x89,u90,u91,x92,x93,x94,x95,x96,x97,x98,x99,x100,x101,x102,x103,x104,x105,x106,x107,x108,x109,x110,x111,x112,x113,x114,x115,u116,u117,x118,u119,u120,u121,u122,u123,u124,u125,u126,u127,u128,u129,u130,u131,u132,u133,u134,u135,u136,u137,u138,u139,u140,u141,u142,u143,u144,u145,u146,u147,u148,u149,u150,u151,u152,u153,u154,u155,u156,u157,u158],[]⟩ wx))
 (hQE:Hid (∀(c:Array Value) (wx:World) (p:QOk) (er:Int),c[6]? = some (.slice none 0 0)→c[7]? = some (.pointer (some ⟨pb,0,none⟩))→c[8]? = some (.int .i64 er)→Qca wx pb #[.int .i64 p.1,.int .i64 p.2.1,.int .i64 p.2.2] 27→Qaa (LdS lb mb ov rv) w0 wx→QAa (ldT F fuel opn2) F opn2 before (((file:Int),d)::rest) ord giv out = .error (p,er)→Q .ret ⟨c,[]⟩ wx)) :
 (QSk 75).wp Tryz.prog Q ⟨#[.pointer (some ⟨lb,0,none⟩),.int .i64 (file:Int),.int .i64 (before:Int),u3,u4,u5,u6,.pointer (some ⟨pb,0,none⟩),u8,u9,.pointer (some ⟨qb,0,none⟩),u11,outv,u13,.pointer (some ⟨eb,0,none⟩),mv0,u16,u17,u18,u19,u20,u21,u22,u23,u24,u25,u26,u27,u28,u29,u30,u31,u32,u33,u34,u35,u36,u37,u38,u39,u40,u41,u42,u43,u44,u45,u46,u47,u48,u49,u50,u51,u52,u53,u54,u55,u56,u57,u58,u59,u60,u61,u62,u63,u64,u65,u66,u67,u68,u69,u70,u71,u72,u73,u74,.bool (d.kind == 6),u76,u77,u78,u79,u80,u81,u82,u83,u84,u85,u86,u87,u88,u89,u90,u91,u92,u93,u94,u95,u96,u97,u98,u99,u100,u101,u102,u103,u104,u105,u106,u107,u108,u109,u110,u111,u112,u113,u114,u115,u116,u117,u118,u119,u120,u121,u122,u123,u124,u125,u126,u127,u128,u129,u130,u131,u132,u133,u134,u135,u136,u137,u138,u139,u140,u141,u142,u143,u144,u145,u146,u147,u148,u149,u150,u151,u152,u153,u154,u155,u156,u157,u158],[]⟩ w:=by
 have em:QJc F d.name = -1:=by unfold QJc;rw[hf]
 have Jp:=hid (Qye (go:=ldT F fuel opn2) (F:=F) (opn:=opn2) (before:=before) (d:=((file:Int),d)) (r:=rest) (ord:=ord) (giv:=giv) (out:=out) hk hf)
 clear hf
 simp only[QSk,Q8h,Tryz.f72,Option.getD_some,reduceIte,Nat.reduceEqDiff]
 have kA:(d.kind == 6)=true:=by simpa using hk
 obtain⟨ov',rv',hL,Kl,gX⟩:=hW.out.ld
 have Gz:=Qse lb mb fv ov' rv' F d.name w hL.holds hL.files (by omega)
 rw[em]at Gz
 have cR:=hid Gz
 obtain⟨-,-,a2,-⟩:=Qqa hE.out
 have ael:=hE.out.lt
 clear Gz hk
 go_wp2_with fail
 refine(by exact cR.out:Calls _ _ _ _ _).mono ?_
 rintro e w1 ⟨rfl,Gy⟩
 have kn:=hid (hW.out.new1 Gy)
 have Gi:=hid (hL.new Gy)
 have aO:=hid (hE.out.keeps (Qaa.of_fresh Gy (fun _=>False)) (fun e=>e))
 have aP:=hid (hM.out.new Gy)
 clear hL Gy a2 ael
 have hP:=kn.out.pos
 obtain⟨b0,b1,b2,g0,g1,g2,gl⟩:=three hP
 obtain⟨-,-,-,-,a4,a5,a6⟩:=Qqa aO.out
 have ael:=aO.out.lt
 have Hh:=hid (((hP.set 0 (.int .i64 (file:Int))).set 1 (.int .i64 d.line)).set 2 (.int .i64 d.col)).drew
 have av:=hid ((((kn.out.keeps).setCell (p:=⟨pb,0,none⟩) (.inl kn.out.low.1) (.int .i64 (file:Int))).setCell (p:=⟨pb,1,none⟩) (.inl kn.out.low.1) (.int .i64 d.line)).setCell (p:=⟨pb,2,none⟩) (.inl kn.out.low.1) (.int .i64 d.col)).drew
 clear hP
 go_wp2_with fail
 go_region
 all_goals
  go_wp2_with fail
  exact hQE.out _ _ ((file:Int),d.line,d.col) 4 rfl rfl rfl (by exact Hh.out) (by exact av.out) Jp.out
set_option maxRecDepth 100000 in
theorem Qsl{Q:Exit→Act→World→Prop}(A:Nat→Prop)(fuel lb mb base pb qb eb before file:Nat)(fv ov rv dv outv mv0 pv:Value)(F:List QFa)(opn2:List Nat)(ord:List ByteArray)(giv:Q4b)(D:List Qra)(out:List FdT)(d:Qra)(rest:List FdT)(w0 w:World)(hrec:Hid (Q1g fuel))(hF:F.length≤8)(hT:Hid (∀f∈F,f.text.size≤maxLen∧f.name.size≤maxLen))(mx:F.length<opn2.length+fuel)(He:0<base)(kc:base≤w0.heap.size)(Kt:Hid (Qhf w0))(hA:Hid (∀g,A g→g<w0.heap.size))(Jf:Hid (∀i,LdS lb mb ov rv i→base≤i))(hk:d.kind=6)(k:Nat)(hf:Hid (QYb F d.name=some k))(hc:opn2.contains k=true){u3 u4 u5 u6 u8 u9 u11 u13 u16 u17 u18 u19 u20 u21 u22 u23 u24 u25 u26 u27 u28 u29 u30 u31 u32 u33 u34 u35 u36 u37 u38 u39 u40 u41 u42 u43 u44 u45 u46 u47 u48 u49 u50 u51 u52 u53 u54 u55 u56 u57 u58 u59 u60 u61 u62 u63 u64 u65 u66 u67 u68 u69 u70 u71 u72 u73 u74 u76 u77 u78 u79 u80 u81 u82 u83 u84 u85 u86 u87 u88 u89 u90 u91 u92 u93 u94 u95 u96 u97 u98 u99 u100 u101 u102 u103 u104 u105 u106 u107 u108 u109 u110 u111 u112 u113 u114 u115 u116 u117 u118 u119 u120 u121 u122 u123 u124 u125 u126 u127 u128 u129 u130 u131 u132 u133 u134 u135 u136 u137 u138 u139 u140 u141 u142 u143 u144 u145 u146 u147 u148 u149 u150 u151 u152 u153 u154 u155 u156 u157 u158:Value}
 (hW:Hid (LdW A lb mb base pb qb fv ov rv dv F opn2 (file:Int) D before w0 outv ord giv out w)) (hE:Hid (Qca w eb #[.int .i64 d.kind,.string d.label,.string d.name,pv,.int .i64 (file:Int),.int .i64 d.line,.int .i64 d.col] 34)) (hM:Hid (Qsa w base mv0 [((file:Int),d)])) (j9:Hid (∀g,mv0.ownBlock=some g→outv.ownBlock≠some g))
 (hQ:Hid (∀(x11 x15 x16 x17 x18 x75 x76 x77 x78 x79 x80 x81 x84 x85 x86 x87 x88 x89 x92 x93 x94 x95 x96 x97 x98 x99 x100 x101 x102 x103 x104 x105 x106 x107 x108 x109 x110 x111 x112 x113 x114 x115 x118:Value) (wx:World) (ord':List ByteArray) (giv':Q4b) (m:List FdT),LdW A lb mb base pb qb fv ov rv dv F opn2 (file:Int) D before w0 outv ord' giv' out wx→Qsa wx base x15 m→(∀g,x15.ownBlock=some g→outv.ownBlock≠some g)→m.length≤6000→QAa (ldT F fuel opn2) F opn2 before (((file:Int),d)::rest) ord giv out=(if Qhb before out<m.length then .error (Qbj (m.getD (Qhb before out) Qnf),3)else QAa (ldT F fuel opn2) F opn2 before rest ord' giv' (out++m))→Q .normal ⟨#[.pointer (some ⟨lb,0,none⟩),.int .i64 (file:Int),.int .i64 (before:Int),u3,u4,u5,u6,.pointer (some ⟨pb,0,none⟩),u8,u9,.pointer (some ⟨qb,0,none⟩),x11,outv,u13,.pointer (some ⟨eb,0,none⟩),x15,x16,x17,x18,u19,u20,u21,u22,u23,u24,u25,u26,u27,u28,u29,u30,u31,u32,u33,u34,u35,u36,u37,u38,u39,u40,u41,u42,u43,u44,u45,u46,u47,u48,u49,u50,u51,u52,u53,u54,u55,u56,u57,u58,u59,u60,u61,u62,u63,u64,u65,u66,u67,u68,u69,u70,u71,u72,u73,u74,x75,x76,x77,x78,x79,x80,x81,u82,u83,x84,x85,x86,x87,x88,x89,u90,u91,x92,x93,x94,x95,x96,x97,x98,x99,x100,x101,x102,x103,x104,x105,x106,x107,x108,x109,x110,x111,x112,x113,x114,x115,u116,u117,x118,u119,u120,u121,u122,u123,u124,u125,u126,u127,u128,u129,u130,u131,u132,u133,u134,u135,u136,u137,u138,u139,u140,u141,u142,u143,u144,u145,u146,u147,u148,u149,u150,u151,u152,u153,u154,u155,u156,u157,u158],[]⟩ wx))
 (hQE:Hid (∀(c:Array Value) (wx:World) (p:QOk) (er:Int),c[6]? = some (.slice none 0 0)→c[7]? = some (.pointer (some ⟨pb,0,none⟩))→c[8]? = some (.int .i64 er)→Qca wx pb #[.int .i64 p.1,.int .i64 p.2.1,.int .i64 p.2.2] 27→Qaa (LdS lb mb ov rv) w0 wx→QAa (ldT F fuel opn2) F opn2 before (((file:Int),d)::rest) ord giv out = .error (p,er)→Q .ret ⟨c,[]⟩ wx)) :
 (QSk 75).wp Tryz.prog Q ⟨#[.pointer (some ⟨lb,0,none⟩),.int .i64 (file:Int),.int .i64 (before:Int),u3,u4,u5,u6,.pointer (some ⟨pb,0,none⟩),u8,u9,.pointer (some ⟨qb,0,none⟩),u11,outv,u13,.pointer (some ⟨eb,0,none⟩),mv0,u16,u17,u18,u19,u20,u21,u22,u23,u24,u25,u26,u27,u28,u29,u30,u31,u32,u33,u34,u35,u36,u37,u38,u39,u40,u41,u42,u43,u44,u45,u46,u47,u48,u49,u50,u51,u52,u53,u54,u55,u56,u57,u58,u59,u60,u61,u62,u63,u64,u65,u66,u67,u68,u69,u70,u71,u72,u73,u74,.bool (d.kind == 6),u76,u77,u78,u79,u80,u81,u82,u83,u84,u85,u86,u87,u88,u89,u90,u91,u92,u93,u94,u95,u96,u97,u98,u99,u100,u101,u102,u103,u104,u105,u106,u107,u108,u109,u110,u111,u112,u113,u114,u115,u116,u117,u118,u119,u120,u121,u122,u123,u124,u125,u126,u127,u128,u129,u130,u131,u132,u133,u134,u135,u136,u137,u138,u139,u140,u141,u142,u143,u144,u145,u146,u147,u148,u149,u150,u151,u152,u153,u154,u155,u156,u157,u158],[]⟩ w:=by
 have em:QJc F d.name=(k:Int):=by unfold QJc;rw[hf.out]
 have Jp:=hid (Qmd (go:=ldT F fuel opn2) (F:=F) (opn:=opn2) (before:=before) (d:=((file:Int),d)) (r:=rest) (ord:=ord) (giv:=giv) (out:=out) hk hf.out hc)
 simp only[QSk,Q8h,Tryz.f72,Option.getD_some,reduceIte,Nat.reduceEqDiff]
 have kA:(d.kind == 6)=true:=by simpa using hk
 obtain⟨ov',rv',hL,Kl,gX⟩:=hW.out.ld
 have Gz:=Qse lb mb fv ov' rv' F d.name w hL.holds hL.files (by omega)
 rw[em]at Gz
 have cR:=hid Gz
 obtain⟨-,-,a2,-⟩:=Qqa hE.out
 have ael:=hE.out.lt
 clear Gz hk
 go_wp2_with fail
 refine(by exact cR.out:Calls _ _ _ _ _).mono ?_
 rintro e w1 ⟨rfl,Gy⟩
 have kn:=hid (hW.out.new1 Gy)
 have Gi:=hid (hL.new Gy)
 have aO:=hid (hE.out.keeps (Qaa.of_fresh Gy (fun _=>False)) (fun e=>e))
 have aP:=hid (hM.out.new Gy)
 clear hL Gy a2 ael
 have J6:=Qjd ov' opn2 k w1 (Qkh Gi.out.opn) (by have:=kn.out.ok.short;omega)
 rw[hc]at J6
 have HC:=hid J6
 obtain⟨oa,oc,rfl⟩:=Qma Gi.out.opn
 obtain⟨l0,l1,l2,l3,lf0,lf1,lf2,lf3,ll⟩:w1.cell? ⟨lb,0,none⟩=some fv∧w1.cell? ⟨lb,1,none⟩=some (.map (some mb))∧w1.cell? ⟨lb,2,none⟩=some (.slice oa opn2.length oc)∧w1.cell? ⟨lb,3,none⟩=some rv'∧w1.frozen? ⟨lb,0,none⟩=false∧w1.frozen? ⟨lb,1,none⟩=false∧w1.frozen? ⟨lb,2,none⟩=false∧w1.frozen? ⟨lb,3,none⟩=false∧lb<w1.heap.size:=⟨Gi.out.holds.cell 0,Gi.out.holds.cell 1,Gi.out.holds.cell 2,Gi.out.holds.cell 3,Gi.out.holds.free 0,Gi.out.holds.free 1,Gi.out.holds.free 2,Gi.out.holds.free 3,Gi.out.holds.lt⟩
 have Js:k<F.length:=QOc hf.out
 clear J6
 go_wp2_with fail
 refine(by exact HC.out:Calls _ _ _ _ _).mono ?_
 rintro e w2 ⟨rfl,rfl⟩
 have hP:=kn.out.pos
 obtain⟨b0,b1,b2,g0,g1,g2,gl⟩:=three hP
 obtain⟨-,-,-,-,a4,a5,a6⟩:=Qqa aO.out
 have ael:=aO.out.lt
 have Hh:=hid (((hP.set 0 (.int .i64 (file:Int))).set 1 (.int .i64 d.line)).set 2 (.int .i64 d.col)).drew
 have av:=hid ((((kn.out.keeps).setCell (p:=⟨pb,0,none⟩) (.inl kn.out.low.1) (.int .i64 (file:Int))).setCell (p:=⟨pb,1,none⟩) (.inl kn.out.low.1) (.int .i64 d.line)).setCell (p:=⟨pb,2,none⟩) (.inl kn.out.low.1) (.int .i64 d.col)).drew
 clear hP
 go_wp2_with fail
 go_region
 all_goals
  go_wp2_with fail
  exact hQE.out _ _ ((file:Int),d.line,d.col) 10 rfl rfl rfl (by exact Hh.out) (by exact av.out) Jp.out
set_option maxRecDepth 100000 in
theorem QPm{Q:Exit→Act→World→Prop}(A:Nat→Prop)(fuel lb mb base pb qb eb before file:Nat)(fv ov rv dv outv mv0 pv:Value)(F:List QFa)(opn2:List Nat)(ord:List ByteArray)(giv:Q4b)(D:List Qra)(out:List FdT)(d:Qra)(rest:List FdT)(w0 w:World)(hrec:Hid (Q1g fuel))(hF:F.length≤8)(hT:Hid (∀f∈F,f.text.size≤maxLen∧f.name.size≤maxLen))(mx:F.length<opn2.length+fuel)(He:0<base)(kc:base≤w0.heap.size)(Kt:Hid (Qhf w0))(hA:Hid (∀g,A g→g<w0.heap.size))(Jf:Hid (∀i,LdS lb mb ov rv i→base≤i))(hk:d.kind=6)(k:Nat)(hf:Hid (QYb F d.name=some k))(hc:opn2.contains k=false)(l:List FdT)(hg:Hid (Qkf giv k=some l)){u3 u4 u5 u6 u8 u9 u11 u13 u16 u17 u18 u19 u20 u21 u22 u23 u24 u25 u26 u27 u28 u29 u30 u31 u32 u33 u34 u35 u36 u37 u38 u39 u40 u41 u42 u43 u44 u45 u46 u47 u48 u49 u50 u51 u52 u53 u54 u55 u56 u57 u58 u59 u60 u61 u62 u63 u64 u65 u66 u67 u68 u69 u70 u71 u72 u73 u74 u76 u77 u78 u79 u80 u81 u82 u83 u84 u85 u86 u87 u88 u89 u90 u91 u92 u93 u94 u95 u96 u97 u98 u99 u100 u101 u102 u103 u104 u105 u106 u107 u108 u109 u110 u111 u112 u113 u114 u115 u116 u117 u118 u119 u120 u121 u122 u123 u124 u125 u126 u127 u128 u129 u130 u131 u132 u133 u134 u135 u136 u137 u138 u139 u140 u141 u142 u143 u144 u145 u146 u147 u148 u149 u150 u151 u152 u153 u154 u155 u156 u157 u158:Value}
 (hW:Hid (LdW A lb mb base pb qb fv ov rv dv F opn2 (file:Int) D before w0 outv ord giv out w)) (hE:Hid (Qca w eb #[.int .i64 d.kind,.string d.label,.string d.name,pv,.int .i64 (file:Int),.int .i64 d.line,.int .i64 d.col] 34)) (hM:Hid (Qsa w base mv0 [((file:Int),d)])) (j9:Hid (∀g,mv0.ownBlock=some g→outv.ownBlock≠some g))
 (hQ:Hid (∀(x11 x15 x16 x17 x18 x75 x76 x77 x78 x79 x80 x81 x84 x85 x86 x87 x88 x89 x92 x93 x94 x95 x96 x97 x98 x99 x100 x101 x102 x103 x104 x105 x106 x107 x108 x109 x110 x111 x112 x113 x114 x115 x118:Value) (wx:World) (ord':List ByteArray) (giv':Q4b) (m:List FdT),LdW A lb mb base pb qb fv ov rv dv F opn2 (file:Int) D before w0 outv ord' giv' out wx→Qsa wx base x15 m→(∀g,x15.ownBlock=some g→outv.ownBlock≠some g)→m.length≤6000→QAa (ldT F fuel opn2) F opn2 before (((file:Int),d)::rest) ord giv out=(if Qhb before out<m.length then .error (Qbj (m.getD (Qhb before out) Qnf),3)else QAa (ldT F fuel opn2) F opn2 before rest ord' giv' (out++m))→Q .normal ⟨#[.pointer (some ⟨lb,0,none⟩),.int .i64 (file:Int),.int .i64 (before:Int),u3,u4,u5,u6,.pointer (some ⟨pb,0,none⟩),u8,u9,.pointer (some ⟨qb,0,none⟩),x11,outv,u13,.pointer (some ⟨eb,0,none⟩),x15,x16,x17,x18,u19,u20,u21,u22,u23,u24,u25,u26,u27,u28,u29,u30,u31,u32,u33,u34,u35,u36,u37,u38,u39,u40,u41,u42,u43,u44,u45,u46,u47,u48,u49,u50,u51,u52,u53,u54,u55,u56,u57,u58,u59,u60,u61,u62,u63,u64,u65,u66,u67,u68,u69,u70,u71,u72,u73,u74,x75,x76,x77,x78,x79,x80,x81,u82,u83,x84,x85,x86,x87,x88,x89,u90,u91,x92,x93,x94,x95,x96,x97,x98,x99,x100,x101,x102,x103,x104,x105,x106,x107,x108,x109,x110,x111,x112,x113,x114,x115,u116,u117,x118,u119,u120,u121,u122,u123,u124,u125,u126,u127,u128,u129,u130,u131,u132,u133,u134,u135,u136,u137,u138,u139,u140,u141,u142,u143,u144,u145,u146,u147,u148,u149,u150,u151,u152,u153,u154,u155,u156,u157,u158],[]⟩ wx))
 (hQE:Hid (∀(c:Array Value) (wx:World) (p:QOk) (er:Int),c[6]? = some (.slice none 0 0)→c[7]? = some (.pointer (some ⟨pb,0,none⟩))→c[8]? = some (.int .i64 er)→Qca wx pb #[.int .i64 p.1,.int .i64 p.2.1,.int .i64 p.2.2] 27→Qaa (LdS lb mb ov rv) w0 wx→QAa (ldT F fuel opn2) F opn2 before (((file:Int),d)::rest) ord giv out = .error (p,er)→Q .ret ⟨c,[]⟩ wx)) :
 (QSk 75).wp Tryz.prog Q ⟨#[.pointer (some ⟨lb,0,none⟩),.int .i64 (file:Int),.int .i64 (before:Int),u3,u4,u5,u6,.pointer (some ⟨pb,0,none⟩),u8,u9,.pointer (some ⟨qb,0,none⟩),u11,outv,u13,.pointer (some ⟨eb,0,none⟩),mv0,u16,u17,u18,u19,u20,u21,u22,u23,u24,u25,u26,u27,u28,u29,u30,u31,u32,u33,u34,u35,u36,u37,u38,u39,u40,u41,u42,u43,u44,u45,u46,u47,u48,u49,u50,u51,u52,u53,u54,u55,u56,u57,u58,u59,u60,u61,u62,u63,u64,u65,u66,u67,u68,u69,u70,u71,u72,u73,u74,.bool (d.kind == 6),u76,u77,u78,u79,u80,u81,u82,u83,u84,u85,u86,u87,u88,u89,u90,u91,u92,u93,u94,u95,u96,u97,u98,u99,u100,u101,u102,u103,u104,u105,u106,u107,u108,u109,u110,u111,u112,u113,u114,u115,u116,u117,u118,u119,u120,u121,u122,u123,u124,u125,u126,u127,u128,u129,u130,u131,u132,u133,u134,u135,u136,u137,u138,u139,u140,u141,u142,u143,u144,u145,u146,u147,u148,u149,u150,u151,u152,u153,u154,u155,u156,u157,u158],[]⟩ w:=by
 have em:QJc F d.name=(k:Int):=by unfold QJc;rw[hf.out]
 have Jp:=hid (Q6c (go:=ldT F fuel opn2) (F:=F) (opn:=opn2) (before:=before) (d:=((file:Int),d)) (r:=rest) (ord:=ord) (giv:=giv) (out:=out) hk hf.out hc hg.out)
 simp only[QSk,Q8h,Tryz.f72,Option.getD_some,reduceIte,Nat.reduceEqDiff]
 have kA:(d.kind == 6)=true:=by simpa using hk
 obtain⟨ov',rv',hL,Kl,gX⟩:=hW.out.ld
 have Gz:=Qse lb mb fv ov' rv' F d.name w hL.holds hL.files (by omega)
 rw[em]at Gz
 have cR:=hid Gz
 obtain⟨-,-,a2,-⟩:=Qqa hE.out
 have ael:=hE.out.lt
 clear Gz hk
 go_wp2_with fail
 refine(by exact cR.out:Calls _ _ _ _ _).mono ?_
 rintro e w1 ⟨rfl,Gy⟩
 have kn:=hid (hW.out.new1 Gy)
 have Gi:=hid (hL.new Gy)
 have aO:=hid (hE.out.keeps (Qaa.of_fresh Gy (fun _=>False)) (fun e=>e))
 have aP:=hid (hM.out.new Gy)
 clear hL Gy a2 ael
 have J6:=Qjd ov' opn2 k w1 (Qkh Gi.out.opn) (by have:=kn.out.ok.short;omega)
 rw[hc]at J6
 have HC:=hid J6
 obtain⟨oa,oc,rfl⟩:=Qma Gi.out.opn
 obtain⟨l0,l1,l2,l3,lf0,lf1,lf2,lf3,ll⟩:w1.cell? ⟨lb,0,none⟩=some fv∧w1.cell? ⟨lb,1,none⟩=some (.map (some mb))∧w1.cell? ⟨lb,2,none⟩=some (.slice oa opn2.length oc)∧w1.cell? ⟨lb,3,none⟩=some rv'∧w1.frozen? ⟨lb,0,none⟩=false∧w1.frozen? ⟨lb,1,none⟩=false∧w1.frozen? ⟨lb,2,none⟩=false∧w1.frozen? ⟨lb,3,none⟩=false∧lb<w1.heap.size:=⟨Gi.out.holds.cell 0,Gi.out.holds.cell 1,Gi.out.holds.cell 2,Gi.out.holds.cell 3,Gi.out.holds.free 0,Gi.out.holds.free 1,Gi.out.holds.free 2,Gi.out.holds.free 3,Gi.out.holds.lt⟩
 have Js:k<F.length:=QOc hf.out
 clear J6
 go_wp2_with fail
 refine(by exact HC.out:Calls _ _ _ _ _).mono ?_
 rintro e w2 ⟨rfl,rfl⟩
 obtain⟨vL,bL,ur,Kq⟩:=Gi.out.look kn.out.ok k (by omega)
 have MS:=hid Kq
 clear Kq
 obtain⟨rfl,KK,Jt,st⟩:bL=true∧Qsa w1 base vL l∧l.length≤6000∧∀g,vL.ownBlock=some g→¬(A g∨outv.ownBlock=some g):=by
  rcases MS.out with⟨e1,_⟩|⟨l',e1,e2,e3,e4,e5⟩
  ·rw[hg.out]at e1;cases e1
  ·rw[hg.out]at e1;cases e1;exact⟨e2,e3,e4,e5⟩
 have sT:=hid KK
 have sS:=hid st
 clear MS KK st
 go_wp2_with fail
 exact hQ.out _ _ _ _ _ _ _ _ _ _ _ _ _ _ _ _ _ _ _ _ _ _ _ _ _ _ _ _ _ _ _ _ _ _ _ _ _ _ _ _ _ _ _ _ ord giv l kn.out sT.out (fun g hg e=>sS.out g hg (.inr e)) Jt Jp.out
set_option maxRecDepth 100000 in
theorem QEp{Q:Exit→Act→World→Prop}(A:Nat→Prop)(fuel lb mb base pb qb eb before file:Nat)(fv ov rv dv outv mv0 pv:Value)(F:List QFa)(opn2:List Nat)(ord:List ByteArray)(giv:Q4b)(D:List Qra)(out:List FdT)(d:Qra)(rest:List FdT)(w0 w:World)(hrec:Hid (Q1g fuel))(hF:F.length≤8)(hT:Hid (∀f∈F,f.text.size≤maxLen∧f.name.size≤maxLen))(mx:F.length<opn2.length+fuel)(He:0<base)(kc:base≤w0.heap.size)(Kt:Hid (Qhf w0))(hA:Hid (∀g,A g→g<w0.heap.size))(Jf:Hid (∀i,LdS lb mb ov rv i→base≤i))(hk:d.kind=6)(k:Nat)(hf:Hid (QYb F d.name=some k))(hc:opn2.contains k=false)(hg:Hid (Qkf giv k=none)){u3 u4 u5 u6 u8 u9 u11 u13 u16 u17 u18 u19 u20 u21 u22 u23 u24 u25 u26 u27 u28 u29 u30 u31 u32 u33 u34 u35 u36 u37 u38 u39 u40 u41 u42 u43 u44 u45 u46 u47 u48 u49 u50 u51 u52 u53 u54 u55 u56 u57 u58 u59 u60 u61 u62 u63 u64 u65 u66 u67 u68 u69 u70 u71 u72 u73 u74 u76 u77 u78 u79 u80 u81 u82 u83 u84 u85 u86 u87 u88 u89 u90 u91 u92 u93 u94 u95 u96 u97 u98 u99 u100 u101 u102 u103 u104 u105 u106 u107 u108 u109 u110 u111 u112 u113 u114 u115 u116 u117 u118 u119 u120 u121 u122 u123 u124 u125 u126 u127 u128 u129 u130 u131 u132 u133 u134 u135 u136 u137 u138 u139 u140 u141 u142 u143 u144 u145 u146 u147 u148 u149 u150 u151 u152 u153 u154 u155 u156 u157 u158:Value}
 (hW:Hid (LdW A lb mb base pb qb fv ov rv dv F opn2 (file:Int) D before w0 outv ord giv out w)) (hE:Hid (Qca w eb #[.int .i64 d.kind,.string d.label,.string d.name,pv,.int .i64 (file:Int),.int .i64 d.line,.int .i64 d.col] 34)) (hM:Hid (Qsa w base mv0 [((file:Int),d)])) (j9:Hid (∀g,mv0.ownBlock=some g→outv.ownBlock≠some g))
 (hQ:Hid (∀(x11 x15 x16 x17 x18 x75 x76 x77 x78 x79 x80 x81 x84 x85 x86 x87 x88 x89 x92 x93 x94 x95 x96 x97 x98 x99 x100 x101 x102 x103 x104 x105 x106 x107 x108 x109 x110 x111 x112 x113 x114 x115 x118:Value) (wx:World) (ord':List ByteArray) (giv':Q4b) (m:List FdT),LdW A lb mb base pb qb fv ov rv dv F opn2 (file:Int) D before w0 outv ord' giv' out wx→Qsa wx base x15 m→(∀g,x15.ownBlock=some g→outv.ownBlock≠some g)→m.length≤6000→QAa (ldT F fuel opn2) F opn2 before (((file:Int),d)::rest) ord giv out=(if Qhb before out<m.length then .error (Qbj (m.getD (Qhb before out) Qnf),3)else QAa (ldT F fuel opn2) F opn2 before rest ord' giv' (out++m))→Q .normal ⟨#[.pointer (some ⟨lb,0,none⟩),.int .i64 (file:Int),.int .i64 (before:Int),u3,u4,u5,u6,.pointer (some ⟨pb,0,none⟩),u8,u9,.pointer (some ⟨qb,0,none⟩),x11,outv,u13,.pointer (some ⟨eb,0,none⟩),x15,x16,x17,x18,u19,u20,u21,u22,u23,u24,u25,u26,u27,u28,u29,u30,u31,u32,u33,u34,u35,u36,u37,u38,u39,u40,u41,u42,u43,u44,u45,u46,u47,u48,u49,u50,u51,u52,u53,u54,u55,u56,u57,u58,u59,u60,u61,u62,u63,u64,u65,u66,u67,u68,u69,u70,u71,u72,u73,u74,x75,x76,x77,x78,x79,x80,x81,u82,u83,x84,x85,x86,x87,x88,x89,u90,u91,x92,x93,x94,x95,x96,x97,x98,x99,x100,x101,x102,x103,x104,x105,x106,x107,x108,x109,x110,x111,x112,x113,x114,x115,u116,u117,x118,u119,u120,u121,u122,u123,u124,u125,u126,u127,u128,u129,u130,u131,u132,u133,u134,u135,u136,u137,u138,u139,u140,u141,u142,u143,u144,u145,u146,u147,u148,u149,u150,u151,u152,u153,u154,u155,u156,u157,u158],[]⟩ wx))
 (hQE:Hid (∀(c:Array Value) (wx:World) (p:QOk) (er:Int),c[6]? = some (.slice none 0 0)→c[7]? = some (.pointer (some ⟨pb,0,none⟩))→c[8]? = some (.int .i64 er)→Qca wx pb #[.int .i64 p.1,.int .i64 p.2.1,.int .i64 p.2.2] 27→Qaa (LdS lb mb ov rv) w0 wx→QAa (ldT F fuel opn2) F opn2 before (((file:Int),d)::rest) ord giv out = .error (p,er)→Q .ret ⟨c,[]⟩ wx)) :
 (QSk 75).wp Tryz.prog Q ⟨#[.pointer (some ⟨lb,0,none⟩),.int .i64 (file:Int),.int .i64 (before:Int),u3,u4,u5,u6,.pointer (some ⟨pb,0,none⟩),u8,u9,.pointer (some ⟨qb,0,none⟩),u11,outv,u13,.pointer (some ⟨eb,0,none⟩),mv0,u16,u17,u18,u19,u20,u21,u22,u23,u24,u25,u26,u27,u28,u29,u30,u31,u32,u33,u34,u35,u36,u37,u38,u39,u40,u41,u42,u43,u44,u45,u46,u47,u48,u49,u50,u51,u52,u53,u54,u55,u56,u57,u58,u59,u60,u61,u62,u63,u64,u65,u66,u67,u68,u69,u70,u71,u72,u73,u74,.bool (d.kind == 6),u76,u77,u78,u79,u80,u81,u82,u83,u84,u85,u86,u87,u88,u89,u90,u91,u92,u93,u94,u95,u96,u97,u98,u99,u100,u101,u102,u103,u104,u105,u106,u107,u108,u109,u110,u111,u112,u113,u114,u115,u116,u117,u118,u119,u120,u121,u122,u123,u124,u125,u126,u127,u128,u129,u130,u131,u132,u133,u134,u135,u136,u137,u138,u139,u140,u141,u142,u143,u144,u145,u146,u147,u148,u149,u150,u151,u152,u153,u154,u155,u156,u157,u158],[]⟩ w:=by
 have em:QJc F d.name=(k:Int):=by unfold QJc;rw[hf.out]
 have Jp:=hid (Qxe (go:=ldT F fuel opn2) (F:=F) (opn:=opn2) (before:=before) (d:=((file:Int),d)) (r:=rest) (ord:=ord) (giv:=giv) (out:=out) hk hf.out hc hg.out)
 simp only[QSk,Q8h,Tryz.f72,Option.getD_some,reduceIte,Nat.reduceEqDiff]
 have kA:(d.kind == 6)=true:=by simpa using hk
 obtain⟨ov',rv',hL,Kl,gX⟩:=hW.out.ld
 have Gz:=Qse lb mb fv ov' rv' F d.name w hL.holds hL.files (by omega)
 rw[em]at Gz
 have cR:=hid Gz
 obtain⟨-,-,a2,-⟩:=Qqa hE.out
 have ael:=hE.out.lt
 clear Gz hk
 go_wp2_with fail
 refine(by exact cR.out:Calls _ _ _ _ _).mono ?_
 rintro e w1 ⟨rfl,Gy⟩
 have kn:=hid (hW.out.new1 Gy)
 have Gi:=hid (hL.new Gy)
 have aO:=hid (hE.out.keeps (Qaa.of_fresh Gy (fun _=>False)) (fun e=>e))
 have aP:=hid (hM.out.new Gy)
 clear hL Gy a2 ael
 have J6:=Qjd ov' opn2 k w1 (Qkh Gi.out.opn) (by have:=kn.out.ok.short;omega)
 rw[hc]at J6
 have HC:=hid J6
 obtain⟨oa,oc,rfl⟩:=Qma Gi.out.opn
 obtain⟨l0,l1,l2,l3,lf0,lf1,lf2,lf3,ll⟩:w1.cell? ⟨lb,0,none⟩=some fv∧w1.cell? ⟨lb,1,none⟩=some (.map (some mb))∧w1.cell? ⟨lb,2,none⟩=some (.slice oa opn2.length oc)∧w1.cell? ⟨lb,3,none⟩=some rv'∧w1.frozen? ⟨lb,0,none⟩=false∧w1.frozen? ⟨lb,1,none⟩=false∧w1.frozen? ⟨lb,2,none⟩=false∧w1.frozen? ⟨lb,3,none⟩=false∧lb<w1.heap.size:=⟨Gi.out.holds.cell 0,Gi.out.holds.cell 1,Gi.out.holds.cell 2,Gi.out.holds.cell 3,Gi.out.holds.free 0,Gi.out.holds.free 1,Gi.out.holds.free 2,Gi.out.holds.free 3,Gi.out.holds.lt⟩
 have Js:k<F.length:=QOc hf.out
 clear J6
 go_wp2_with fail
 refine(by exact HC.out:Calls _ _ _ _ _).mono ?_
 rintro e w2 ⟨rfl,rfl⟩
 obtain⟨vL,bL,ur,Kq⟩:=Gi.out.look kn.out.ok k (by omega)
 have MS:=hid Kq
 clear Kq
 obtain⟨rfl,rfl⟩:bL=false∧vL = .slice none 0 0:=by
  rcases MS.out with⟨_,e1,e2⟩|⟨l',e1,_⟩
  ·exact⟨e1,e2⟩
  ·rw[hg.out]at e1;cases e1
 clear MS
 have fD:k ∉ opn2:=fun hm=>by rw[List.contains_iff_mem.2 hm]at hc;cases hc
 obtain⟨va,vc,Jf⟩:=kn.out.row.slice
 subst Jf
 have Ga:=kn.out.len
 have kL:Qaa (fun i=>base≤i) w0 w1:=kn.out.keeps.mono (fun i _ hS=>Jf.out i hS)
 have Kp:=hrec.out (fun g=>A g∨Value.ownBlock (.slice va out.length vc)=some g) lb mb base fv (.slice oa opn2.length oc) rv' F opn2 ord giv k (before+out.length) w1 Gi.out (fun g hg=>by
  rcases hg with e|e
  ·exact Nat.lt_of_lt_of_le (hA.out g e) kn.out.keeps.size
  ·obtain⟨_,_,hr,_⟩:=kn.out.row
   exact(Qva hr e).1) Js hF hT.out kn.out.ok fD hg.out mx Ga He (Kt.out.keeps kL (fun e=>by have e2:base≤0:=e;have:0=0:=rfl;omega))
 have fR:=hid Kp
 clear Kp kL
 go_wp2_with fail
 refine(by exact fR.out:Calls _ _ _ _ _).mono ?_
 rintro e w2 ⟨ga,Gu⟩
 have GU:=Gi.out.pos ga kn.out.pos
 obtain⟨x0,y0,z0,hq⟩:=kn.out.tmp
 have JW:=Gi.out.pos ga hq
 obtain⟨b0,b1,b2,g0,g1,g2,gl⟩:=three GU
 obtain⟨q0,q1,q2,i0,i1,i2,il⟩:=three JW
 cases KZ:ldT F fuel opn2 ord giv k (before+out.length)with
 | error x=>
  obtain⟨⟨p1,p2,p3⟩,er⟩:=x
  rw[KZ]at Gu
  simp only at Gu
  subst Gu
  have ej:=hid (Jp.out.trans (by rw[KZ]):QAa (ldT F fuel opn2) F opn2 before (((file:Int),d)::rest) ord giv out = .error ((p1,p2,p3),er))
  have her:(er == 0)=false:=by simpa using Q5i _ _ _ _ _ _ _ _ _ KZ
  have sC:=((JW.set 0 (.int .i64 p1)).set 1 (.int .i64 p2)).set 2 (.int .i64 p3)
  have kq:Qaa (· = qb) w2 (((w2.setCell ⟨qb,0,none⟩ (.int .i64 p1)).setCell ⟨qb,1,none⟩ (.int .i64 p2)).setCell ⟨qb,2,none⟩ (.int .i64 p3)):=(((Qaa.refl (· = qb) w2).setCell (p:=⟨qb,0,none⟩) (.inr rfl) _).setCell (p:=⟨qb,1,none⟩) (.inr rfl) _).setCell (p:=⟨qb,2,none⟩) (.inr rfl) _
  have sB:=GU.keeps kq (fun e=>kn.out.low.2.2 e)
  have Hs:Qaa (LdS lb mb ov rv) w0 (((w2.setCell ⟨qb,0,none⟩ (.int .i64 p1)).setCell ⟨qb,1,none⟩ (.int .i64 p2)).setCell ⟨qb,2,none⟩ (.int .i64 p3)):=by
   refine(kn.out.keeps.trans ga ?_).trans kq ?_
   ·rintro i hi (e|e|e|e)
    ·exact .inl e
    ·exact .inr (.inl e)
    ·rcases Kl i e with e2|e2
     ·exact .inr (.inr (.inl e2))
     ·omega
    ·rcases gX i e with e2|e2
     ·exact .inr (.inr (.inr e2))
     ·omega
   ·rintro i hi rfl
    have:=kn.out.low.2.1
    omega
  have ta:=hid sC
  have qU:=hid sB
  have GS:=hid Hs
  clear KZ sC sB Hs kq GU JW hq ga
  unfold QJb
  go_upto_region 20 with fail
  generalize ((w2.setCell ⟨qb,0,none⟩ (.int .i64 p1)).setCell ⟨qb,1,none⟩ (.int .i64 p2)).setCell ⟨qb,2,none⟩ (.int .i64 p3)=w5 at *
  clear b0 b1 b2 g0 g1 g2 gl q0 q1 q2 i0 i1 i2 il
  obtain⟨b0,b1,b2,g0,g1,g2,gl⟩:=three qU.out
  obtain⟨q0,q1,q2,i0,i1,i2,il⟩:=three ta.out
  have Hh:=hid (((qU.out.set 0 (.int .i64 p1)).set 1 (.int .i64 p2)).set 2 (.int .i64 p3)).drew
  have av:=hid ((((GS.out).setCell (p:=⟨pb,0,none⟩) (.inl kn.out.low.1) (.int .i64 p1)).setCell (p:=⟨pb,1,none⟩) (.inl kn.out.low.1) (.int .i64 p2)).setCell (p:=⟨pb,2,none⟩) (.inl kn.out.low.1) (.int .i64 p3)).drew
  go_wp2_with fail
  go_region
  all_goals
   go_wp2_with fail
   exact hQE.out _ _ (p1,p2,p3) er rfl rfl rfl (by exact Hh.out) (by exact av.out) ej.out
 | ok x=>
  obtain⟨ord2,giv2,l⟩:=x
  rw[KZ]at Gu
  obtain⟨v,ov2,rv2,rfl,Hb,nz,K1,ku,K6⟩:=Gu
  have ej:=hid (Jp.out.trans (by rw[KZ]):QAa (ldT F fuel opn2) F opn2 before (((file:Int),d)::rest) ord giv out=(if Qhb before out<l.length then .error (Qbj (l.getD (Qhb before out) Qnf),3)else QAa (ldT F fuel opn2) F opn2 before rest ord2 giv2 (out++l)))
  obtain⟨qd,hlen2⟩:=Qrl F fuel opn2 _ _ _ _ _ _ _ KZ kn.out.ok Js fD hg.out Ga
  have tY:=hid (kn.out.turn kc Kl gX Gi.out ga nz qd ku K6 0 0 0)
  have kq:Qaa (· = qb) w2 (((w2.setCell ⟨qb,0,none⟩ (.int .i64 0)).setCell ⟨qb,1,none⟩ (.int .i64 0)).setCell ⟨qb,2,none⟩ (.int .i64 0)):=(((Qaa.refl (· = qb) w2).setCell (p:=⟨qb,0,none⟩) (.inr rfl) _).setCell (p:=⟨qb,1,none⟩) (.inr rfl) _).setCell (p:=⟨qb,2,none⟩) (.inr rfl) _
  have ji:=hid (Hb.side kq (fun b e=>by cases e;exact⟨_,JW⟩))
  have mR:=hid (show ∀g,v.ownBlock=some g→Value.ownBlock (.slice va out.length vc)≠some g from fun g hg e=>by
   obtain⟨_,_,hr,_⟩:=kn.out.row
   have h1:=(Qva hr e).1
   have h2:=K1 g hg
   omega)
  clear KZ Hb nz K1 ku K6 kq GU JW hq ga
  unfold QJb
  go_wp2_with fail
  exact hQ.out _ _ _ _ _ _ _ _ _ _ _ _ _ _ _ _ _ _ _ _ _ _ _ _ _ _ _ _ _ _ _ _ _ _ _ _ _ _ _ _ _ _ _ _ ord2 giv2 l tY.out ji.out mR.out (by omega) ej.out
set_option maxRecDepth 100000 in
theorem Qro{Q:Exit→Act→World→Prop}(A:Nat→Prop)(fuel lb mb base pb qb eb before file:Nat)(fv ov rv dv outv mv0 pv:Value)(F:List QFa)(opn2:List Nat)(ord:List ByteArray)(giv:Q4b)(D:List Qra)(out:List FdT)(d:Qra)(rest:List FdT)(w0 w:World)(hrec:Hid (Q1g fuel))(hF:F.length≤8)(hT:Hid (∀f∈F,f.text.size≤maxLen∧f.name.size≤maxLen))(mx:F.length<opn2.length+fuel)(He:0<base)(kc:base≤w0.heap.size)(Kt:Hid (Qhf w0))(hA:Hid (∀g,A g→g<w0.heap.size))(Jf:Hid (∀i,LdS lb mb ov rv i→base≤i)){u3 u4 u5 u6 u8 u9 u11 u13 u16 u17 u18 u19 u20 u21 u22 u23 u24 u25 u26 u27 u28 u29 u30 u31 u32 u33 u34 u35 u36 u37 u38 u39 u40 u41 u42 u43 u44 u45 u46 u47 u48 u49 u50 u51 u52 u53 u54 u55 u56 u57 u58 u59 u60 u61 u62 u63 u64 u65 u66 u67 u68 u69 u70 u71 u72 u73 u74 u76 u77 u78 u79 u80 u81 u82 u83 u84 u85 u86 u87 u88 u89 u90 u91 u92 u93 u94 u95 u96 u97 u98 u99 u100 u101 u102 u103 u104 u105 u106 u107 u108 u109 u110 u111 u112 u113 u114 u115 u116 u117 u118 u119 u120 u121 u122 u123 u124 u125 u126 u127 u128 u129 u130 u131 u132 u133 u134 u135 u136 u137 u138 u139 u140 u141 u142 u143 u144 u145 u146 u147 u148 u149 u150 u151 u152 u153 u154 u155 u156 u157 u158:Value}
 (hW:Hid (LdW A lb mb base pb qb fv ov rv dv F opn2 (file:Int) D before w0 outv ord giv out w)) (hE:Hid (Qca w eb #[.int .i64 d.kind,.string d.label,.string d.name,pv,.int .i64 (file:Int),.int .i64 d.line,.int .i64 d.col] 34)) (hM:Hid (Qsa w base mv0 [((file:Int),d)])) (j9:Hid (∀g,mv0.ownBlock=some g→outv.ownBlock≠some g))
 (hQ:Hid (∀(x11 x15 x16 x17 x18 x75 x76 x77 x78 x79 x80 x81 x84 x85 x86 x87 x88 x89 x92 x93 x94 x95 x96 x97 x98 x99 x100 x101 x102 x103 x104 x105 x106 x107 x108 x109 x110 x111 x112 x113 x114 x115 x118:Value) (wx:World) (ord':List ByteArray) (giv':Q4b) (m:List FdT),LdW A lb mb base pb qb fv ov rv dv F opn2 (file:Int) D before w0 outv ord' giv' out wx→Qsa wx base x15 m→(∀g,x15.ownBlock=some g→outv.ownBlock≠some g)→m.length≤6000→QAa (ldT F fuel opn2) F opn2 before (((file:Int),d)::rest) ord giv out=(if Qhb before out<m.length then .error (Qbj (m.getD (Qhb before out) Qnf),3)else QAa (ldT F fuel opn2) F opn2 before rest ord' giv' (out++m))→Q .normal ⟨#[.pointer (some ⟨lb,0,none⟩),.int .i64 (file:Int),.int .i64 (before:Int),u3,u4,u5,u6,.pointer (some ⟨pb,0,none⟩),u8,u9,.pointer (some ⟨qb,0,none⟩),x11,outv,u13,.pointer (some ⟨eb,0,none⟩),x15,x16,x17,x18,u19,u20,u21,u22,u23,u24,u25,u26,u27,u28,u29,u30,u31,u32,u33,u34,u35,u36,u37,u38,u39,u40,u41,u42,u43,u44,u45,u46,u47,u48,u49,u50,u51,u52,u53,u54,u55,u56,u57,u58,u59,u60,u61,u62,u63,u64,u65,u66,u67,u68,u69,u70,u71,u72,u73,u74,x75,x76,x77,x78,x79,x80,x81,u82,u83,x84,x85,x86,x87,x88,x89,u90,u91,x92,x93,x94,x95,x96,x97,x98,x99,x100,x101,x102,x103,x104,x105,x106,x107,x108,x109,x110,x111,x112,x113,x114,x115,u116,u117,x118,u119,u120,u121,u122,u123,u124,u125,u126,u127,u128,u129,u130,u131,u132,u133,u134,u135,u136,u137,u138,u139,u140,u141,u142,u143,u144,u145,u146,u147,u148,u149,u150,u151,u152,u153,u154,u155,u156,u157,u158],[]⟩ wx))
 (hQE:Hid (∀(c:Array Value) (wx:World) (p:QOk) (er:Int),c[6]? = some (.slice none 0 0)→c[7]? = some (.pointer (some ⟨pb,0,none⟩))→c[8]? = some (.int .i64 er)→Qca wx pb #[.int .i64 p.1,.int .i64 p.2.1,.int .i64 p.2.2] 27→Qaa (LdS lb mb ov rv) w0 wx→QAa (ldT F fuel opn2) F opn2 before (((file:Int),d)::rest) ord giv out = .error (p,er)→Q .ret ⟨c,[]⟩ wx)) :
 (QSk 75).wp Tryz.prog Q ⟨#[.pointer (some ⟨lb,0,none⟩),.int .i64 (file:Int),.int .i64 (before:Int),u3,u4,u5,u6,.pointer (some ⟨pb,0,none⟩),u8,u9,.pointer (some ⟨qb,0,none⟩),u11,outv,u13,.pointer (some ⟨eb,0,none⟩),mv0,u16,u17,u18,u19,u20,u21,u22,u23,u24,u25,u26,u27,u28,u29,u30,u31,u32,u33,u34,u35,u36,u37,u38,u39,u40,u41,u42,u43,u44,u45,u46,u47,u48,u49,u50,u51,u52,u53,u54,u55,u56,u57,u58,u59,u60,u61,u62,u63,u64,u65,u66,u67,u68,u69,u70,u71,u72,u73,u74,.bool (d.kind == 6),u76,u77,u78,u79,u80,u81,u82,u83,u84,u85,u86,u87,u88,u89,u90,u91,u92,u93,u94,u95,u96,u97,u98,u99,u100,u101,u102,u103,u104,u105,u106,u107,u108,u109,u110,u111,u112,u113,u114,u115,u116,u117,u118,u119,u120,u121,u122,u123,u124,u125,u126,u127,u128,u129,u130,u131,u132,u133,u134,u135,u136,u137,u138,u139,u140,u141,u142,u143,u144,u145,u146,u147,u148,u149,u150,u151,u152,u153,u154,u155,u156,u157,u158],[]⟩ w:=by
 by_cases hk:d.kind=6
 ·cases hf:QYb F d.name with
  | none=>exact Qso A fuel lb mb base pb qb eb before file fv ov rv dv outv mv0 pv F opn2 ord giv D out d rest w0 _ hrec hF hT mx He kc Kt hA Jf hk hf hW hE hM j9 hQ hQE
  | some k=>
   cases hc:opn2.contains k with
   | true=>exact Qsl A fuel lb mb base pb qb eb before file fv ov rv dv outv mv0 pv F opn2 ord giv D out d rest w0 _ hrec hF hT mx He kc Kt hA Jf hk k (hid hf) hc hW hE hM j9 hQ hQE
   | false=>
    cases hg:Qkf giv k with
    | some l=>exact QPm A fuel lb mb base pb qb eb before file fv ov rv dv outv mv0 pv F opn2 ord giv D out d rest w0 _ hrec hF hT mx He kc Kt hA Jf hk k (hid hf) hc l (hid hg) hW hE hM j9 hQ hQE
    | none=>exact QEp A fuel lb mb base pb qb eb before file fv ov rv dv outv mv0 pv F opn2 ord giv D out d rest w0 _ hrec hF hT mx He kc Kt hA Jf hk k (hid hf) hc (hid hg) hW hE hM j9 hQ hQE
 ·exact Qfq A fuel lb mb base pb qb eb before file fv ov rv dv outv mv0 pv F opn2 ord giv D out d rest w0 _ hrec hF hT mx He kc Kt hA Jf hk hW hE hM j9 hQ hQE
end Go.Proofs.YtofhcgbihonckaaGreat
namespace Go.Proofs.YtofhcgbihonckaaGreat
open Go.Lib (hid)
open Go.RowKit Go.ChangeMaps
def LdN(lb mb base:Nat)(fv ov rv:Value)(names:List ByteArray)(w0 w:World):Prop:=
 ∃rv',Qca w lb (ldC fv mb ov rv') 95∧w.ownsRow base 9 1 rv' names.length (Qad names)∧Qaa (fun i=>i=lb∨rv.ownBlock=some i) w0 w∧(∀g,rv'.ownBlock=some g→rv.ownBlock=some g∨w0.heap.size≤g)
def LdL(A:Nat→Prop)(lb mb base pb qb:Nat)(fv ov rv dv:Value)(F:List QFa)(opn2:List Nat)(fuel before:Nat)(file:Int)(D:List Qra)(R:Lr)(w:World)(i:Nat)(outv:Value)(wr:World):Prop:=
 ∃ord giv out,LdW A lb mb base pb qb fv ov rv dv F opn2 file D before w outv ord giv out wr∧QAa (ldT F fuel opn2) F opn2 before ((Qoc file D).drop i) ord giv out=R
theorem QJh(file:Int)(D:List Qra):(Qoc file D).length=D.length:=by simp[Qoc]
set_option maxRecDepth 100000 in
theorem Q9g(fuel:Nat)(hrec:Q1g fuel):Q1g (fuel+1):=by
 intro A lb mb base fv ov rv F opn ord giv file before w h hA M0 hF hT mP lm uk mx pH He lay
 have oO:=hid hrec
 have HA:=hid hA
 have HGO:=hid mP
 have fS:=hid (show ∀s,Qxd F (opn++[file]) (ord++[s]) giv from fun s=>mP.open1 M0 lm uk s)
 have fJ:=mP.short
 have qv:=(fS.out ⟨#[]⟩).short
 have qe:=mP.ord
 have qf:=hid (show ∀i,LdS lb mb ov rv i→base≤i from by
  rintro i (rfl|rfl|e|e)
  ·exact h.lbb
  ·exact h.mbb
  ·exact(Qva h.opn e).2.1
  ·exact(Qva h.ord e).2.1)
 have hol8:ord.length≤8:=by omega
 clear hrec hA mP qe
 simp only[List.length_append,List.length_cons,List.length_nil]at qv
 obtain⟨fa,fc,rfl,nD,ab,lh⟩:=id h.files
 obtain⟨fg,fo,rfl,pN,li⟩:=lh (by omega)
 obtain⟨ra,rc,rfl⟩:=Qma h.ord
 obtain⟨n0,t0⟩:=li file M0
 have gJ:=(Below.refl w.heap.size w).alloc (Nat.le_refl _) (.cells #[.int .i64 0,.int .i64 0,.int .i64 0] 27)
 have kb0:Qaa (fun _=>False) w _:=Qaa.of_fresh gJ _
 have iF:=h.holds.keeps kb0 (fun e=>e)
 have aX:=Qca.new w #[.int .i64 0,.int .i64 0,.int .i64 0] 27
 have c0:(w.alloc (.cells #[.int .i64 0,.int .i64 0,.int .i64 0] 27)).cell? ⟨lb,0,none⟩=some (.slice (some ⟨fg,fo,none⟩) F.length fc):=iF.cell 0
 have c3:(w.alloc (.cells #[.int .i64 0,.int .i64 0,.int .i64 0] 27)).cell? ⟨lb,3,none⟩=some (.slice ra ord.length rc):=iF.cell 3
 have f3:=iF.free 3
 have n1:=(gJ.cell (p:=⟨fg,fo+file*2,none⟩) pN).trans n0
 have t1:=(gJ.cell (p:=⟨fg,fo+file*2+1,none⟩) pN).trans t0
 have kM:=Qba h.ord kb0 (fun _ _ e=>e)
 have ut:=h.holds.lt
 have hfr:(file:Int)<(F.length:Int):=by omega
 have H:=hid h
 have HT:=hid hT
 have bh:=hid lay
 have jK:=hid gJ
 have qN:=hid iF
 have c8:=hid aX
 have nr:=hid kM
 have K2:=h.size
 have a8:=hT F[file] (List.getElem_mem M0)
 have bH:F.getD file ⟨⟨#[]⟩,⟨#[]⟩⟩=F[file]:=by rw[List.getD_eq_getElem?_getD,List.getElem?_eq_getElem M0];rfl
 have ME:ldT F (fuel+1) opn ord giv file before=(if (QTb F[file].text.data.toList file).2.2≠0 then .error ((QTb F[file].text.data.toList file).2.1,(QTb F[file].text.data.toList file).2.2)else
  match QAa (ldT F fuel (opn++[file])) F (opn++[file]) before (Qoc file (QTb F[file].text.data.toList file).1) (ord++[F[file].name]) giv []with
  | .error e=>.error e
  | .ok (o,g,out)=>.ok (o,g++[((file:Int),out)],out)):=by
  simp only[ldT]
  rw[bH]
  rfl
 clear h hT lay gJ kb0 iF aX kM lh li n0 t0 bH
 generalize F[file]=ff at *
 obtain⟨nm,tx⟩:=ff
 simp only at n1 t1 a8 ME
 have jN:=hid ME
 clear ME
 obtain⟨i0,mQ,GL,GM,GN⟩:=info_parts QOm
 go_enter Tryz.func72,Tryz.ntmps72
 go_wp2_with fail
 obtain⟨pb,lR⟩:∃pb,pb=w.heap.size:=⟨_,rfl⟩
 rw[←lR]at c8 jK ⊢
 have fd:=hid lR
 have uc:base≤pb:=by omega
 have sq:lb<pb:=by omega
 have hfp:fg<pb:=by omega
 have bS:(w.alloc (.cells #[.int .i64 0,.int .i64 0,.int .i64 0] 27)).heap.size=pb+1:=by simp[lR]
 clear lR
 generalize w.alloc (.cells #[.int .i64 0,.int .i64 0,.int .i64 0] 27)=w0 at *
 have hlb0:lb<w0.heap.size:=by omega
 have lk:fg<w0.heap.size:=by omega
 have hbw0:base≤w0.heap.size:=by omega
 have oP:=hid bS
 clear bS
 have mZ:=fun g hg=>(nr.out.lt g hg).2
 have HRL:=hid mZ
 clear mZ
 have Hq:∀g,Value.ownBlock (.slice ra ord.length rc)=some g→g≠lb:=fun g hg e=>by subst e;exact QGb nr.out qN.out (by decide) hg
 have MJ:=hid Hq
 clear Hq
 go_cut []from 20 to 36 (fun wx=>LdN lb mb base (.slice (some ⟨fg,fo,none⟩) F.length fc) ov (.slice ra ord.length rc) (ord++[nm]) w0 wx)
 case first=>
  go_region_law (refine step_append_lies _ (by rfl) _ _ _ (by rfl) base 9 i0 _ 1 16 Tryz.underlying39 mQ GL GM GN rfl (by omega) _ ord.length (Qad ord) (by rfl) ((nr.out.alloc _).drew) ⟨w0.heap.size,0,none⟩ 1 1 [.string nm] (by rfl) (by rfl) (World.news_of_block (cs:=#[.string nm]) (t:=9) (fr:=(0,0)) (heap_alloc_new w0 _)) (by simp[Value.oneCell']) (by omega) (by unfold maxLen;omega) (by omega) (by simp;omega) (w0.heap.size+1) (by simp) ?_;intro gg cap2 w1 gw jC iT lF;have G1:=((qN.out.alloc _).drew).keeps (Qaa.of_grown jC (fun _ e=>e)) (fun e=>MJ.out _ e rfl);have q1:=G1.free 3;have q2:w1.cell? ⟨lb,3,none⟩=some (.slice ra ord.length rc):=G1.cell 3;have q3:=G1.lt)
  all_goals
   have Mi:=G1.set 3 (.slice (some ⟨gg,0,none⟩) (ord.length+1) cap2)
   have cE:=Q9l gw G1 (by decide) 3 (.slice (some ⟨gg,0,none⟩) (ord.length+1) cap2)
   have Ht:Qaa (fun i=>i=lb∨Value.ownBlock (.slice ra ord.length rc)=some i) w0 (w1.setCell ⟨lb,3,none⟩ (.slice (some ⟨gg,0,none⟩) (ord.length+1) cap2)):=
    (((((Qaa.refl (fun _=>False) w0).alloc (.cells #[.string nm] 9)).drew).mono (S:=fun i=>i=lb∨Value.ownBlock (.slice ra ord.length rc)=some i) (fun _ _ e=>e.elim)).trans (Qaa.of_grown jC (fun _ e=>.inr e)) (fun _ _ e=>e)).setCell (p:=⟨lb,3,none⟩) (.inr (.inl rfl)) _
   have HF:=hid (show LdN lb mb base (.slice (some ⟨fg,fo,none⟩) F.length fc) ov (.slice ra ord.length rc) (ord++[nm]) w0 (w1.setCell ⟨lb,3,none⟩ (.slice (some ⟨gg,0,none⟩) (ord.length+1) cap2))from
    ⟨.slice (some ⟨gg,0,none⟩) (ord.length+1) cap2,Mi,by rw[List.length_append,show Qad (ord++[nm])=Qad ord++[.string nm]from by simp[Qad]];exact cE,Ht,fun g hg=>by
     have e1:gg=g:=Option.some.inj hg
     rcases iT with e|e
     ·exact .inl (by rw[e,e1])
     ·exact .inr (by omega)⟩)
   clear Mi cE Ht gw jC iT G1 q1 q2
   go_wp2_with fail
   go_meet
   case rel=>exact HF.out
 case rest=>
  obtain⟨rv1,G1,Hz,Ht,sy⟩:=hcut
  have hfb:fg<base:=H.out.low fg rfl
  have sv:¬(fg=lb∨Value.ownBlock (.slice ra ord.length rc)=some fg):=by
   rintro (e|e)
   ·have:=H.out.lbb;omega
   ·have:=(H.out.ord.lt fg e).1;omega
  have d0:wc.cell? ⟨lb,0,none⟩=some (.slice (some ⟨fg,fo,none⟩) F.length fc):=G1.cell 0
  have dl:=G1.lt
  have dt:=(Ht.cell (p:=⟨fg,fo+file*2+1,none⟩) lk sv).trans t1
  have dfg:fg<wc.heap.size:=Nat.lt_of_lt_of_le lk Ht.size
  have kL:Qaa (fun i=>base≤i) w wc:=((Qaa.of_fresh (show Below w.heap.size w w0 from by rw[←fd.out];exact jK.out) _)).trans (Ht.mono (fun i _ e=>by
   rcases e with e|e
   ·have:=H.out.lbb;omega
   ·exact(H.out.ord.lt i e).1)) (fun _ _ e=>e)
  have Kt:Qhf wc:=bh.out.keeps kL (fun e=>by have e2:base≤0:=e;have:0=0:=rfl;omega)
  have gz:=Qqj tx file wc a8.1 Kt
  unfold QOe at gz
  have kB:=hid gz
  have i6:=Qnm tx.data.toList (file:Int)
  have qO:=hid G1
  have Gq:=hid Hz
  have Gg:=hid Ht
  have qT:=hid sy
  have MI:=hid kL
  have hsz1:=Ht.size
  clear gz G1 Hz Ht sy kL Kt sv
  generalize QTb tx.data.toList file=ST at kB jN i6
  obtain⟨D,⟨p1,p2,p3⟩,er⟩:=ST
  go_wp2_with fail
  refine(by exact kB.out:Calls _ _ _ _ _).mono ?_
  rintro e w2 ⟨dv,rfl,bv,Hn⟩
  unfold QJb
  have GU:=c8.out
  by_cases he:er=0
  ·subst he
   have hR:ldT F (fuel+1) opn ord giv file before=(match QAa (ldT F fuel (opn++[file])) F (opn++[file]) before (Qoc file D) (ord++[nm]) giv []with
    | .error e=>.error e
    | .ok (o,g,out)=>.ok (o,g++[((file:Int),out)],out)):=by rw[jN.out,if_neg (by simp)]
   have HR:=hid hR
   clear hR
   obtain⟨oa,oc,rfl⟩:=Qma H.out.opn
   have nY:=hid Hn.size
   have s9:=hid (Qca.new w2 #[.int .i64 p1,.int .i64 p2,.int .i64 p3] 27)
   have J7:D.length≤6001:=i6
   have gv:=Hn.alloc Hn.size (.cells #[.int .i64 p1,.int .i64 p2,.int .i64 p3] 27)
   have k23:Qaa (fun _=>False) wc (w2.alloc (.cells #[.int .i64 p1,.int .i64 p2,.int .i64 p3] 27)):=Qaa.of_fresh gv _
   have ky:=qO.out.keeps k23 (fun e=>e)
   have e2:(w2.alloc (.cells #[.int .i64 p1,.int .i64 p2,.int .i64 p3] 27)).cell? ⟨lb,2,none⟩=some (.slice oa opn.length oc):=ky.cell 2
   have el:=ky.lt
   have lP:=Qba (Qba H.out.opn (Qaa.of_fresh (show Below w.heap.size w w0 from by rw[←fd.out];exact jK.out) (fun _=>False)) (fun _ _ e=>e)) Gg.out (by
    intro g hg e
    rcases e with e|e
    ·subst e;exact QGb H.out.opn H.out.holds (by decide) hg
    ·rcases QVg H.out.opn H.out.ord (by decide)with e4|e4
     ·rw[e4]at hg;cases hg
     ·exact e4 (hg.trans e.symm))
   have lQ:=Qba lP k23 (fun _ _ e=>e)
   obtain⟨j0,aj,KA,Ke,fL⟩:=info_parts QNm
   have oL:=hid lQ
   have oy:=hid ky
   have jM:=hid (bv.keeps (Qaa.of_fresh ((Below.refl w2.heap.size w2).alloc (Nat.le_refl _) (.cells #[.int .i64 p1,.int .i64 p2,.int .i64 p3] 27)) (fun _=>False)) (QNa.nil _))
   have M7:=hid gv
   have hbw3:base≤(w2.alloc (.cells #[.int .i64 p1,.int .i64 p2,.int .i64 p3] 27)).heap.size:=by have:=gv.size;omega
   clear lP lQ ky Hn gv k23 bv GU
   go_upto_region 5 with fail
   generalize w2.alloc (.cells #[.int .i64 p1,.int .i64 p2,.int .i64 p3] 27)=w3 at *
   go_wp2_with (at_builtin;refine Qqb _ rfl _ _ 22 22 rfl base 3 j0 (.int .i64 0) 1 8 Tryz.underlying22 aj KA Ke fL rfl _ opn.length (Q4d opn) rfl (by exact World.ownsRow.alloc oL.out _) _ rfl 1 [.int .i64 (file:Int)] ?c1 ?c2 ?c3 ?c4 ?_)
   case c1=>exact Src.ofSlice _ Tryz.underlying22 _ 1 1 _ rfl (Qlb _ _ _ _ rfl _ rfl) (fun u hu=>by simp at hu;rcases hu with rfl;rfl)
   case c2=>unfold maxLen;omega
   case c3=>omega
   case c4=>simp;omega
   intro v4 w4 g8 ae iU
   obtain⟨va4,vc4,rfl⟩:=Qma g8
   have k4:Qaa (fun i=>Value.ownBlock (.slice oa opn.length oc)=some i) w3 w4:=((Qaa.refl _ w3).alloc _).trans (Qaa.of_grown ae (fun i e=>e)) (fun _ _ e=>e)
   have MO:Value.ownBlock (.slice oa opn.length oc)≠some lb:=QGb oL.out oy.out (by decide)
   have KY:=oy.out.keeps k4 MO
   have s2:w4.cell? ⟨lb,2,none⟩=some (.slice oa opn.length oc):=KY.cell 2
   have s2f:=KY.free 2
   have s2l:=KY.lt
   have fu:=KY.set 2 (.slice va4 (opn.length+1) vc4)
   have kZ:=Q9l g8 KY (by decide) 2 (.slice va4 (opn.length+1) vc4)
   have sO:=hid fu
   have im:=hid kZ
   have gN:=hid (k4.mono (S:=fun i=>i=lb∨Value.ownBlock (.slice oa opn.length oc)=some i) (fun _ _ e=>.inr e) |>.setCell (p:=⟨lb,2,none⟩) (.inr (.inl rfl)) (.slice va4 (opn.length+1) vc4))
   have nX:=hid iU
   clear g8 ae iU k4 KY fu kZ MO
   go_upto_region 6 with fail
   generalize w4.setCell ⟨lb,2,none⟩ (.slice va4 (opn.length+1) vc4)=w5 at *
   obtain⟨da,dc,gM⟩:=jM.out.slice
   obtain⟨R,rO⟩:∃R,R=QAa (ldT F fuel (opn++[file])) F (opn++[file]) before (Qoc file D) (ord++[nm]) giv []:=⟨_,rfl⟩
   have bk:=hid rO
   have kw5:Qaa (fun i=>i=lb∨Value.ownBlock (.slice oa opn.length oc)=some i∨Value.ownBlock (.slice ra ord.length rc)=some i) w w5:=by
    refine((((Qaa.of_fresh (show Below w.heap.size w w0 from by rw[←fd.out];exact jK.out) _).trans Gg.out ?_).trans (Qaa.of_fresh M7.out (fun _=>False)) (fun _ _ e=>e.elim)).trans gN.out ?_)
    ·rintro i _ (e|e)
     ·exact .inl e
     ·exact .inr (.inr e)
    ·rintro i _ (e|e)
     ·exact .inl e
     ·exact .inr (.inl e)
   have k35:=(Qaa.of_fresh M7.out (fun i=>i=lb∨Value.ownBlock (.slice oa opn.length oc)=some i)).trans gN.out (fun _ _ e=>e)
   have hs5:=kw5.size
   have Mj:=Gg.out.size
   have tz:=oP.out
   have eQ:=fd.out
   have hqs:=nY.out
   have hlbw:=H.out.holds.lt
   obtain⟨ow,-⟩:(∀g,Value.ownBlock (.slice oa opn.length oc)=some g→g<w.heap.size)∧True:=⟨fun g hg=>(Qva H.out.opn hg).1,trivial⟩
   have rw1:∀g,Value.ownBlock (.slice ra ord.length rc)=some g→g<w.heap.size:=fun g hg=>(Qva H.out.ord hg).1
   have aI:LdL A lb mb base pb w2.heap.size (.slice (some ⟨fg,fo,none⟩) F.length fc) (.slice oa opn.length oc) (.slice ra ord.length rc) dv F (opn++[file]) fuel before file D R w 0 (.slice none 0 0) w5:=by
    have KQ:(opn++[file]).length=opn.length+1:=by simp
    have ji:=Qba Gq.out k35 (by
     rintro g hg (e|e)
     ·subst e
      exact QGb Gq.out qO.out (by decide) hg
     ·rcases qT.out g hg with e2|e2
      ·rcases QVg H.out.opn H.out.ord (by decide)with e4|e4
       ·rw[e4]at e;cases e
       ·exact e4 (e.trans e2.symm)
      ·have:=ow g e;omega)
    have JS:=H.out.begin (opn2:=opn++[file]) (ord2:=ord++[nm]) kw5 sO.out (by rw[KQ];simpa[Q4d]using im.out) ji
    have tT:=((c8.out.keeps Gg.out (by
     rintro (e|e)
     ·omega
     ·have:=rw1 _ e;omega)).keeps k35 (by
     rintro (e|e)
     ·omega
     ·have:=ow _ e;omega))
    have tW:=s9.out.keeps gN.out (by
     rintro (e|e)
     ·omega
     ·have:=ow _ e;omega)
    have fq:Q0a w5 wc.heap.size file dv D:=jM.out.keeps gN.out (fun b hb e=>by
     rcases e with rfl|e
     ·exact⟨_,_,oy.out,by decide,by decide,by decide⟩
     ·obtain⟨_,_,cur,hc⟩:=Qva oL.out e
      exact⟨_,_,hc,by decide,by decide,by decide⟩)
    refine⟨ord++[nm],giv,[],⟨⟨_,_,JS,?_,?_⟩,Qsa.nil _ _,?_,?_,fq.fds.lower (by omega),tT,⟨p1,p2,p3,tW⟩,fS.out nm,kw5.mono ?_,⟨by omega,by omega,by omega⟩,?_⟩,?_⟩
    ·intro g hg
     rcases nX.out with e|e
     ·exact .inl (e ▸ hg)
     ·rw[e]at hg;cases hg;exact .inr (by have h9:=M7.out.size;simp;omega)
    ·intro g hg
     rcases qT.out g hg with e|e
     ·exact .inl e
     ·exact .inr (by omega)
    ·intro g hg;cases hg
    ·simpa using pH
    ·intro i _ e
     rcases e with e|e|e
     ·exact .inl e
     ·exact .inr (.inr (.inl e))
     ·exact .inr (.inr (.inr e))
    ·intro g _ e;cases e
    ·rw[List.drop_zero];exact bk.out.symm
   subst gM
   have bt:=hid aI
   clear rO aI kw5 k35 ow rw1 eQ tz
   clear c0 c3 f3 n1 t1 d0 dt
   go_wp2_with fail
   go_loopg [12,67] (D.length) (fun f x12 x67 wr=>∃i:Nat,x67 = .int .i64 i∧i≤D.length∧D.length≤i+f∧LdL A lb mb base pb w2.heap.size (.slice (some ⟨fg,fo,none⟩) F.length fc) (.slice oa opn.length oc) (.slice ra ord.length rc) (.slice da D.length dc) F (opn++[file]) fuel before file D R w i x12 wr)
   case atStart=>exact⟨0,rfl,by omega,by omega,bt.out⟩
   case round=>
    obtain⟨i,rfl,GV,kU,ord2,giv2,out,hW,iK⟩:=hrel
    obtain⟨va,vc,rfl⟩:=hW.row.slice
    have qA:=hW.keeps.size
    by_cases Hj:i<D.length
    ·obtain⟨g,cap,pv,e1,hg,fC,d0,d1,d2,d3,d4,d5,d6,fG⟩:=hW.defs.at i (by rw[QJh];exact Hj)
     have ht:(Qoc (file:Int) D)[i]'(by rw[QJh];exact Hj)=((file:Int),D[i]):=by simp[Qoc]
     rw[ht]at d0 d1 d2 d4 d5 d6 fG
     rw[QJh]at e1
     rw[QEn (file:Int) D i Hj]at iK
     generalize D[i]=d at *
     simp only at d0 d1 d2 d4 d5 d6 fG
     cases e1
     obtain⟨dk,dl,dn,dps,dln,dcl⟩:=d
     simp only at d0 d1 d2 d4 d5 d6 fG
     obtain⟨pa,pc,rfl⟩:=fG.slice
     have pU:(i:Int)<(D.length:Int):=by omega
     have Hk:=((Below.refl wr.heap.size wr).alloc (Nat.le_refl _) (.cells #[.int .i64 dk,.string dl,.string dn,.slice pa dps.length pc,.int .i64 (file:Int),.int .i64 dln,.int .i64 dcl] 34)).alloc (by simp) (.cells #[.int .i64 dk,.string dl,.string dn,.slice pa dps.length pc,.int .i64 (file:Int),.int .i64 dln,.int .i64 dcl] 34)
     have tZ:=hid (hW.new1 Hk)
     have hE:=hid ((Qca.new wr #[.int .i64 dk,.string dl,.string dn,.slice pa dps.length pc,.int .i64 (file:Int),.int .i64 dln,.int .i64 dcl] 34).alloc (.cells #[.int .i64 dk,.string dl,.string dn,.slice pa dps.length pc,.int .i64 (file:Int),.int .i64 dln,.int .i64 dcl] 34))
     have hM:=hid (show Qsa ((wr.alloc (.cells #[.int .i64 dk,.string dl,.string dn,.slice pa dps.length pc,.int .i64 (file:Int),.int .i64 dln,.int .i64 dcl] 34)).alloc (.cells #[.int .i64 dk,.string dl,.string dn,.slice pa dps.length pc,.int .i64 (file:Int),.int .i64 dln,.int .i64 dcl] 34)) base (.slice (some ⟨wr.heap.size+1,0,none⟩) 1 1) [((file:Int),⟨dk,dl,dn,dps,dln,dcl⟩)]from
      ⟨[.slice pa dps.length pc],rfl,Q1j (by simp) (by omega) rfl (by omega),fun k hk _=>by
       obtain rfl:k=0:=by simp at hk;omega
       exact fG.keep2 (Qaa.of_fresh Hk (fun _=>False)) (fun _ _ e=>e.elim)⟩)
     have j9:=hid (show ∀g,Value.ownBlock (.slice (some ⟨wr.heap.size+1,0,none⟩) 1 1)=some g→Value.ownBlock (.slice va out.length vc)≠some g from fun g hg e=>by
      obtain⟨_,_,hr,_⟩:=hW.row
      have h1:=(Qva hr e).1
      have h2:wr.heap.size+1=g:=Option.some.inj hg
      omega)
     have fZ:=hid iK
     clear fG iK Hk hW ht
     go_upto_if 75 with fail
     generalize (wr.alloc (.cells #[.int .i64 dk,.string dl,.string dn,.slice pa dps.length pc,.int .i64 (file:Int),.int .i64 dln,.int .i64 dcl] 34)).alloc (.cells #[.int .i64 dk,.string dl,.string dn,.slice pa dps.length pc,.int .i64 (file:Int),.int .i64 dln,.int .i64 dcl] 34)=w7 at *
     refine Qgp (c':=QSk 75) (by kernel_rfl) ?_
     refine Qro A fuel lb mb base pb w2.heap.size wr.heap.size before file (.slice (some ⟨fg,fo,none⟩) F.length fc) (.slice oa opn.length oc) (.slice ra ord.length rc) _ _ _ (.slice pa dps.length pc) F (opn++[file]) ord2 giv2 D out ⟨dk,dl,dn,dps,dln,dcl⟩ ((Qoc (file:Int) D).drop (i+1)) w w7 oO hF HT (by simp;omega) He K2 bh HA qf tZ hE hM j9 ?_ ?_
     ·refine hid ?_
      intro x11 x15 x16 x17 x18 x75 x76 x77 x78 x79 x80 x81 x84 x85 x86 x87 x88 x89 x92 x93 x94 x95 x96 x97 x98 x99 x100 x101 x102 x103 x104 x105 x106 x107 x108 x109 x110 x111 x112 x113 x114 x115 x118 wx ord3 giv3 m J1 KK nP Jt aa
      obtain⟨ma,mc,rfl⟩:=KK.slice
      have hlen3:=J1.len
      have G6:(6000:Int)-(before:Int)-(out.length:Int)=(Qhb before out:Int):=by unfold Qhb;omega
      have uA:Qhb before out≤6000:=by unfold Qhb;omega
      have hml2:(m.length:Int)≤6000:=by omega
      by_cases kM:Qhb before out<m.length
      ·obtain⟨g2,cap2,pv2,e3,cw,_,_,_,_,_,q4,q5,q6,_⟩:=KK.at (Qhb before out) kM
       have bH:m.getD (Qhb before out) Qnf=m[Qhb before out]:=by rw[List.getD_eq_getElem?_getD,List.getElem?_eq_getElem kM];rfl
       have bE:=hid ((fZ.out.symm.trans aa).trans (if_pos kM))
       rw[bH]at bE
       have l8:((Qhb before out:Nat):Int)<(m.length:Int):=by omega
       have fH:=J1.pos
       have Hc:=J1.keeps
       have gB:=J1.low.1
       clear J1 KK bH aa
       generalize m[Qhb before out]=x at *
       obtain⟨xf,xd⟩:=x
       simp only at q4 q5 q6
       cases e3
       generalize Qhb before out=rm at *
       obtain⟨b0,b1,b2,z0,z1,z2,zl⟩:=three fH
       have Hh:=(((fH.set 0 (.int .i64 xf)).set 1 (.int .i64 xd.line)).set 2 (.int .i64 xd.col)).drew
       obtain⟨r0,r1,r2,-⟩:=three (show Qca _ pb #[.int .i64 xf,.int .i64 xd.line,.int .i64 xd.col] 27 from Hh)
       have av:=hid (((Hc.setCell (p:=⟨pb,0,none⟩) (.inl gB) (.int .i64 xf)).setCell (p:=⟨pb,1,none⟩) (.inl gB) (.int .i64 xd.line)).setCell (p:=⟨pb,2,none⟩) (.inl gB) (.int .i64 xd.col)).drew
       clear Hh fH Hc
       go_wp2_with fail
       go_region
       all_goals
        go_wp2_with fail
        exact bodyPost_ret (v:=.tuple #[.slice none 0 0,.agg #[.int .i64 xf,.int .i64 xd.line,.int .i64 xd.col],.int .i64 3]) (by simp[results,Tryz.results72,go_sem,r0,r1,r2]) rfl ⟨av.out,by rw[HR.out,←bk.out,bE.out];rfl⟩
      ·obtain⟨vs,us,Hl,Ji,My⟩:=J1.app K2 KK (by omega)
       have Gj:=hid Hl
       have br:=hid Ji
       have jW:=hid My
       obtain⟨y0,uE,KA,Ke,fL⟩:=info_parts QNj
       have hro2:((Qhb before out:Nat):Int)<(m.length:Int)→False:=by omega
       have Gv:base≤wx.heap.size:=by have:=J1.keeps.size;omega
       clear Hl Ji My J1 KK
       generalize Qhb before out=rm at *
       go_upto_region 26 with fail
       go_wp2_with (at_builtin;refine Qqb _ rfl _ _ 25 25 rfl base 34 y0 _ 7 88 Tryz.underlying25 uE KA Ke fL rfl _ out.length (QGa out vs) rfl (by exact Gj.out) _ rfl m.length (QGa m us) (by exact br.out) ?c5 ?c6 ?c7 ?_)
       case c5=>unfold maxLen;omega
       case c6=>omega
       case c7=>omega
       intro v9 w9 cA ag iV
       have tp:=hid (jW.out v9 w9 cA ag iV)
       clear cA ag iV
       go_wp2_with fail
       go_roundg (gk-1)
       case measure=>omega
       case rel=>exact⟨i+1,by go_num,by omega,by omega,ord3,giv3,out++m,tp.out,by have h9:=aa.symm.trans fZ.out;rw[if_neg kM]at h9;exact h9⟩
     ·refine hid ?_
      intro c wx p er h6 h7 h8 hH hK aa
      obtain⟨r0,r1,r2,-⟩:=three hH
      obtain⟨p1',p2',p3'⟩:=p
      have bE:=fZ.out.symm.trans aa
      exact bodyPost_ret (v:=.tuple #[.slice none 0 0,.agg #[.int .i64 p1',.int .i64 p2',.int .i64 p3'],.int .i64 er]) (by simp[results,Tryz.results72,go_sem,h6,h7,h8,r0,r1,r2]) rfl ⟨hK,by rw[HR.out,←bk.out,bE];rfl⟩
    ·obtain rfl:i=D.length:=by omega
     have iL:(.ok (ord2,giv2,out):Lr)=R:=by rw[←iK,Q9o];rfl
     have fZ:=hid iL
     obtain⟨gg,oc2,rv2,jb,hoc1,hoc2,hoc3,Hh⟩:=hW.fin HA.out hF K2
     have Gr:=hid Hh
     have l2:wr.cell? ⟨lb,2,none⟩=some (.slice (some ⟨gg,0,none⟩) (opn.length+1) oc2):=jb.cell 2
     have lf2:=jb.free 2
     have ll:=jb.lt
     have kr:=hid ((jb.set 2 (.slice (some ⟨gg,0,none⟩) opn.length oc2)).drew)
     have GJ:=hid (((Qaa.refl (· = lb) wr).setCell (p:=⟨lb,2,none⟩) (.inr rfl) (.slice (some ⟨gg,0,none⟩) opn.length oc2)).drew)
     have ib:=hid hW.low.1
     have oH:=hid hW.new
     clear hW iK iL jb Hh
     go_wp2_with fail
     go_region
     all_goals
      generalize (wr.setCell ⟨lb,2,none⟩ (.slice (some ⟨gg,0,none⟩) opn.length oc2)).drew=w6 at *
      obtain⟨o,gH,dO,Hb,fH,ko,ku,K6⟩:=Gr.out w6 GJ.out kr.out
      have m1:w6.cell? ⟨lb,1,none⟩=some (.map (some mb)):=kr.out.cell 1
      have ml:=kr.out.lt
      have oB:=hid dO
      have ik:=hid Hb
      have dh:=hid fH
      have oz:=hid ko
      have th:=hid ku
      have ti:=hid K6
      clear dO Hb fH ko ku K6
      go_upto_region 30 with fail
      generalize setBlock w6 mb o=w8 at *
      have hlowp:=ib.out
      obtain⟨b0,b1,b2,z0,z1,z2,zl⟩:=three dh.out
      have Hh:=(((dh.out.set 0 (.int .i64 0)).set 1 (.int .i64 0)).set 2 (.int .i64 0))
      obtain⟨r0,r1,r2,-⟩:=three (show Qca _ pb #[.int .i64 0,.int .i64 0,.int .i64 0] 27 from Hh)
      have kq:Qaa (· = pb) w8 (((w8.setCell ⟨pb,0,none⟩ (.int .i64 0)).setCell ⟨pb,1,none⟩ (.int .i64 0)).setCell ⟨pb,2,none⟩ (.int .i64 0)):=(((Qaa.refl (· = pb) w8).setCell (p:=⟨pb,0,none⟩) (.inr rfl) _).setCell (p:=⟨pb,1,none⟩) (.inr rfl) _).setCell (p:=⟨pb,2,none⟩) (.inr rfl) _
      have hS:∀b,b=pb→base≤b∧∃cs,Qca w8 b cs 27:=by
       rintro b rfl
       exact⟨uc,_,dh.out⟩
      have cS:=hid (show QMn A lb mb base (.slice (some ⟨fg,fo,none⟩) F.length fc) (.slice oa opn.length oc) (.slice ra ord.length rc) F opn (ldT F (fuel+1) opn ord giv file before) w (.returned (.tuple #[.slice va out.length vc,.agg #[.int .i64 0,.int .i64 0,.int .i64 0],.int .i64 0])) (((w8.setCell ⟨pb,0,none⟩ (.int .i64 0)).setCell ⟨pb,1,none⟩ (.int .i64 0)).setCell ⟨pb,2,none⟩ (.int .i64 0))from by
       refine⟨oz.out.trans kq (fun i hi e=>by subst e;exact absurd hi (by omega)),?_⟩
       rw[HR.out,←bk.out,←fZ.out]
       exact⟨_,_,_,rfl,ik.out.side kq (fun b e=>(hS b e).2),oB.out.side kq hS,oH.out,th.out,ti.out⟩)
      clear kq hS Hh
      go_wp2_with fail
      exact bodyPost_ret (v:=.tuple #[.slice va out.length vc,.agg #[.int .i64 0,.int .i64 0,.int .i64 0],.int .i64 0]) (by simp[results,Tryz.results72,go_sem,r0,r1,r2]) rfl cS.out
  ·have he':(er == 0)=false:=by simpa using he
   have hR:ldT F (fuel+1) opn ord giv file before = .error ((p1,p2,p3),er):=by rw[jN.out,if_pos (by simpa using he)]
   have HR:=hid hR
   clear hR he
   have rL:=c8.out.keeps Gg.out (by
    rintro (e|e)
    ·omega
    ·exact QGb nr.out c8.out (by decide) e)
   have kC:=(rL.keeps (Qaa.of_fresh Hn (fun _=>False)) (fun e=>e)).alloc (.cells #[.int .i64 p1,.int .i64 p2,.int .i64 p3] 27)
   have ck:=Qca.new w2 #[.int .i64 p1,.int .i64 p2,.int .i64 p3] 27
   obtain⟨a0,a1,a2,-,-,-,ql⟩:=three ck
   obtain⟨b0,b1,b2,g0,g1,g2,gl⟩:=three kC
   have Hh:=(((kC.set 0 (.int .i64 p1)).set 1 (.int .i64 p2)).set 2 (.int .i64 p3)).drew
   obtain⟨q0,q1,q2,-⟩:=three (show Qca _ pb #[.int .i64 p1,.int .i64 p2,.int .i64 p3] 27 from Hh)
   have kS0:Qaa (LdS lb mb ov (.slice ra ord.length rc)) w wc:=(Qaa.of_fresh (show Below w.heap.size w w0 from by rw[←fd.out];exact jK.out) _).trans Gg.out (fun _ _ e=>by
    rcases e with e|e
    ·exact .inl e
    ·exact .inr (.inr (.inr e)))
   have qm:w.heap.size≤pb:=by have:=fd.out;omega
   have av:=(((((kS0.trans (Qaa.of_fresh Hn (fun _=>False)) (fun _ _ e=>e.elim)).alloc (.cells #[.int .i64 p1,.int .i64 p2,.int .i64 p3] 27)).setCell (p:=⟨pb,0,none⟩) (.inl qm) (.int .i64 p1)).setCell (p:=⟨pb,1,none⟩) (.inl qm) (.int .i64 p2)).setCell (p:=⟨pb,2,none⟩) (.inl qm) (.int .i64 p3)).drew
   have sQ:=hid av
   clear Hh av rL kC ck GU bv Hn
   go_wp2_with fail
   go_region
   all_goals
    go_wp2_with fail
    exact bodyPost_ret (v:=.tuple #[.slice none 0 0,.agg #[.int .i64 p1,.int .i64 p2,.int .i64 p3],.int .i64 er]) (by simp[results,Tryz.results72,go_sem,q0,q1,q2]) rfl ⟨sQ.out,by rw[HR.out];rfl⟩
theorem QMj:∀fuel,Q1g fuel
 | 0=>fun A lb mb base fv ov rv F opn ord giv file before w _ _ _ _ _ hg _ _ mx=>by have:=hg.short;omega
 | fuel+1=>Q9g fuel (QMj fuel)
end Go.Proofs.YtofhcgbihonckaaGreat
namespace Go.Proofs.YtofhcgbihonckaaGreat
open Go.Lib (hid)
open Go.RowKit Go.ChangeMaps
theorem Qel(F:List QFa)(s:ByteArray):decide (0≤QJc F s)=F.any (fun g=>decide (g.name=s)):=by
 unfold QJc
 rw[Bool.eq_iff_iff,decide_eq_true_eq,List.any_eq_true]
 cases h:QYb F s with
 | none=>
  unfold QYb at h
  rw[List.findIdx?_eq_none_iff]at h
  constructor
  ·intro e;exact absurd e (by simp)
  ·rintro ⟨g,hg,e⟩;rw[h g hg]at e;cases e
 | some k=>
  constructor
  ·intro _
   unfold QYb at h
   obtain⟨hk,h1,_⟩:=List.findIdx?_eq_some_iff_getElem.1 h
   exact⟨F[k],List.getElem_mem hk,h1⟩
  ·intro _;simp
def QWk(fv:Value)(R:Lr)(w:World)(e:Ending)(w':World):Prop:=
 Below w.heap.size w w'∧match R with
 | .error (p,er)=>∃x,e = .returned (.tuple #[.pointer x,.slice none 0 0,QJb p,.int .i64 er])
 | .ok (ord,_,out)=>∃lb mb v ov rv,e = .returned (.tuple #[.pointer (some ⟨lb,0,none⟩),v,QJb (0,0,0),.int .i64 0])∧Qsa w' w.heap.size v out∧Qca w' lb (ldC fv mb ov rv) 95∧w'.ownsRow w.heap.size 9 1 rv ord.length (Qad ord)
set_option maxRecDepth 100000 in
theorem Q9h(fv:Value)(F:List QFa)(main:ByteArray)(w:World)(hF:QKb w fv F)(gB:0<F.length→∀g,fv.ownBlock=some g→g<w.heap.size)(hl:F.length≤1000)(hT:∀f∈F,f.text.size≤maxLen∧f.name.size≤maxLen)(lay:Qhf w)(eP:0<w.heap.size) :
 Calls Tryz.prog 40 #[fv,.string main] w (QWk fv (Qld F main) w):=by
 obtain⟨a,cap,rfl,h1,h2,h3⟩:=id hF
 have gJ:=(Below.refl w.heap.size w).alloc (Nat.le_refl _) (.cells #[.int .i64 0,.int .i64 0,.int .i64 0] 27)
 have aX:=hid (Qca.new w #[.int .i64 0,.int .i64 0,.int .i64 0] 27)
 have HF0:=hid (hF.new gJ)
 have jK:=hid gJ
 have Hx:=hid gB
 have HT:=hid hT
 have bh:=hid lay
 have hsz0:(w.alloc (.cells #[.int .i64 0,.int .i64 0,.int .i64 0] 27)).heap.size=w.heap.size+1:=by simp
 obtain⟨R,hR⟩:∃R,R=Qld F main:=⟨_,rfl⟩
 have HR:=hid hR
 rw[←hR]
 have tJ:=hid hF
 clear hF gB hT lay h3 gJ hR
 have nO:=fun wx=>run_makeMap (P:=Tryz.prog) 93 wx
 go_enter Tryz.func40,Tryz.ntmps40
 go_upto_region 1 with fail
 generalize w.alloc (.cells #[.int .i64 0,.int .i64 0,.int .i64 0] 27)=w1 at *
 by_cases h8:8<F.length
 ·have h8':(8:Int)<(F.length:Int):=by omega
  obtain⟨b0,b1,b2,z0,z1,z2,zl⟩:=three aX.out
  have Hh:=((aX.out.set 0 (.int .i64 0)).set 1 (.int .i64 0)).set 2 (.int .i64 0)
  obtain⟨r0,r1,r2,-⟩:=three (show Qca _ w.heap.size #[.int .i64 0,.int .i64 0,.int .i64 0] 27 from Hh)
  have Gv:=hid (((jK.out.setCell (p:=⟨w.heap.size,0,none⟩) (Nat.le_refl _) (.int .i64 0)).setCell (p:=⟨w.heap.size,1,none⟩) (Nat.le_refl _) (.int .i64 0)).setCell (p:=⟨w.heap.size,2,none⟩) (Nat.le_refl _) (.int .i64 0))
  have HE:Hid (R = .error ((0,0,0),3)):=hid (by rw[HR.out];unfold Qld;rw[if_pos h8])
  clear Hh
  go_wp2_with fail
  exact bodyPost_ret (v:=.tuple #[.pointer none,.slice none 0 0,.agg #[.int .i64 0,.int .i64 0,.int .i64 0],.int .i64 3]) (by simp[results,Tryz.results40,go_sem,r0,r1,r2]) rfl ⟨Gv.out,by rw[HE.out];exact⟨none,rfl⟩⟩
 ·have bJ:F.length≤8:=by omega
  have sN:=tJ
  clear h8
  go_wp2_with fail
  go_loopg [21] (F.length) (fun f x wr=>∃i:Nat,x = .int .i64 i∧i≤F.length∧F.length≤i+f∧Hid (QRk (F.take i) (F.drop i)=QRk [] F)∧Below w.heap.size w wr∧Qca wr w.heap.size #[.int .i64 0,.int .i64 0,.int .i64 0] 27)
  case atStart=>exact⟨0,rfl,by omega,by omega,hid (by rw[List.take_zero,List.drop_zero]),jK.out,aX.out⟩
  case round=>
   obtain⟨i,rfl,GV,kU,hd,hB,hP⟩:=hrel
   have HB:=hid hB
   have HP:=hid hP
   clear hB hP
   have iE:=sN.out.new HB.out
   by_cases Hj:i<F.length
   ·obtain⟨a',cap',e,_,_,h3⟩:=id iE
    cases e
    obtain⟨fg,fo,rfl,pN,li⟩:=h3 (by omega)
    obtain⟨n0,n1⟩:=li i Hj
    have rW:F.drop i=F[i]::F.drop (i+1):=List.drop_eq_getElem_cons Hj
    have GQ:F.take (i+1)=F.take i++[F[i]]:=List.take_succ_eq_append_getElem Hj
    generalize F[i]=f0 at *
    obtain⟨n,t⟩:=f0
    simp only at n0 n1
    have pU:(i:Int)<(F.length:Int):=by omega
    have He:=(Below.refl wr.heap.size wr).alloc (Nat.le_refl _) (.cells #[.string n,.string t] 46)
    have K2:=Qca.new wr #[.string n,.string t] 46
    have aZ:=Qqe wr.heap.size n (.slice (some ⟨fg,fo,none⟩) i cap) (F.take i) _ ((iE.new He).pre i GV) (K2.cell 0) K2.lt (by rw[List.length_take];omega)
    rw[Qel]at aZ
    have MQ:=hid (HB.out.trans (He.mono HB.out.size))
    have ii:=hid (HP.out.alloc (.cells #[.string n,.string t] 46))
    have qI:=hid rW
    have gh:=hid GQ
    have nf:=HB.out.size
    clear li h3 iE He K2 rW GQ
    cases hdd:(F.take i).any (fun g=>decide (g.name=n))with
    | true=>
     rw[hdd]at aZ
     have oe:=hid aZ
     have HE:Hid (R = .error ((0,0,0),5)):=hid (by
      rw[HR.out];unfold Qld
      rw[if_neg (by omega),if_pos]
      rw[←hd.out,qI.out]
      simp only[QRk,hdd,Bool.true_or])
     clear aZ hdd
     go_wp2_with fail
     refine(by exact oe.out:Calls _ _ _ _ _).mono ?_
     rintro e w2 ⟨rfl,Hn⟩
     have M8:=hid (ii.out.keeps (Qaa.of_fresh Hn (fun _=>False)) (fun e=>e))
     have GI:=hid (MQ.out.trans (Hn.mono MQ.out.size))
     clear Hn
     go_upto_region 7 with fail
     obtain⟨b0,b1,b2,z0,z1,z2,zl⟩:=three M8.out
     have Hh:=((M8.out.set 0 (.int .i64 0)).set 1 (.int .i64 0)).set 2 (.int .i64 0)
     obtain⟨r0,r1,r2,-⟩:=three (show Qca _ w.heap.size #[.int .i64 0,.int .i64 0,.int .i64 0] 27 from Hh)
     have Gv:=hid (((GI.out.setCell (p:=⟨w.heap.size,0,none⟩) (Nat.le_refl _) (.int .i64 0)).setCell (p:=⟨w.heap.size,1,none⟩) (Nat.le_refl _) (.int .i64 0)).setCell (p:=⟨w.heap.size,2,none⟩) (Nat.le_refl _) (.int .i64 0))
     clear Hh
     go_wp2_with fail
     exact bodyPost_ret (v:=.tuple #[.pointer none,.slice none 0 0,.agg #[.int .i64 0,.int .i64 0,.int .i64 0],.int .i64 5]) (by simp[results,Tryz.results40,go_sem,r0,r1,r2]) rfl ⟨Gv.out,by rw[HE.out];exact⟨none,rfl⟩⟩
    | false=>
     rw[hdd]at aZ
     have oe:=hid aZ
     have jM:Hid (QRk (F.take (i+1)) (F.drop (i+1))=QRk [] F):=hid (by
      rw[←hd.out,qI.out,gh.out]
      simp only[QRk,hdd,Bool.false_or])
     clear aZ hdd
     go_wp2_with fail
     refine(by exact oe.out:Calls _ _ _ _ _).mono ?_
     rintro e w2 ⟨rfl,Hn⟩
     have M8:=hid (ii.out.keeps (Qaa.of_fresh Hn (fun _=>False)) (fun e=>e))
     have GI:=hid (MQ.out.trans (Hn.mono MQ.out.size))
     clear Hn
     go_wp2_with fail
     go_roundg (gk-1)
     case measure=>omega
     case rel=>exact⟨i+1,by go_num,by omega,by omega,jM,GI.out,M8.out⟩
   ·obtain rfl:i=F.length:=by omega
    have bD:QRk [] F=false:=by rw[←hd.out,List.drop_length];rfl
    clear hd
    have He:=((Below.refl wr.heap.size wr).alloc (Nat.le_refl _) (.map #[] 0)).alloc (by simp) (.cells #[.slice a F.length cap,.map (some wr.heap.size),.slice none 0 0,.slice none 0 0] 95)
    have qM:=hid (iE.new He)
    have MQ:=hid (HB.out.trans (He.mono HB.out.size))
    have ii:=hid (HP.out.keeps (Qaa.of_fresh He (fun _=>False)) (fun e=>e))
    have Gi:=hid (Qca.newAt (w:=wr.alloc (.map #[] 0)) (B:=wr.heap.size+1) (by simp) #[.slice a F.length cap,.map (some wr.heap.size),.slice none 0 0,.slice none 0 0] 95)
    have sP:=hid ((QXc.new wr).keeps ((Qaa.refl (fun _=>False) _).alloc (.cells #[.slice a F.length cap,.map (some wr.heap.size),.slice none 0 0,.slice none 0 0] 95)) (fun e=>e))
    have nf:=HB.out.size
    have gE:((wr.alloc (.map #[] 0)).alloc (.cells #[.slice a F.length cap,.map (some wr.heap.size),.slice none 0 0,.slice none 0 0] 95)).heap.size=wr.heap.size+2:=by simp
    have KU:=hid gE
    clear He iE gE
    go_upto_region 10 with fail
    generalize (wr.alloc (.map #[] 0)).alloc (.cells #[.slice a F.length cap,.map (some wr.heap.size),.slice none 0 0,.slice none 0 0] 95)=w2 at *
    have nK:w.heap.size<wr.heap.size+1:=by omega
    have dO:0<F.length→Qif (fun _=>False) w2 (wr.heap.size+1) wr.heap.size w.heap.size (.slice a F.length cap) (.slice none 0 0) (.slice none 0 0) F [] [] []:=
     fun MN=>⟨Gi.out,qM.out,Hx.out MN,World.ownsRow_nil _ _ _ _,World.ownsRow_nil _ _ _ _,⟨[],sP.out,rfl,fun i h=>by cases h⟩,by omega,nf,by have:=KU.out;omega⟩
    have bF:=Qse (wr.heap.size+1) wr.heap.size (.slice a F.length cap) (.slice none 0 0) (.slice none 0 0) F main w2 Gi.out qM.out hl
    have jN:=hid dO
    clear dO
    cases hf:QYb F main with
    | none=>
     rw[show QJc F main = -1 from by unfold QJc;rw[hf]]at bF
     have oo:=hid bF
     have HE:Hid (R = .error ((0,0,0),4)):=hid (by
      rw[HR.out];unfold Qld
      rw[if_neg (by omega),if_neg (by rw[bD];simp),hf])
     clear bF hf
     go_wp2_with fail
     refine(by exact oo.out:Calls _ _ _ _ _).mono ?_
     rintro e w3 ⟨rfl,Hn⟩
     have M8:=hid (ii.out.keeps (Qaa.of_fresh Hn (fun _=>False)) (fun e=>e))
     have GI:=hid (MQ.out.trans (Hn.mono MQ.out.size))
     clear Hn
     go_upto_region 12 with fail
     obtain⟨b0,b1,b2,z0,z1,z2,zl⟩:=three M8.out
     have Hh:=((M8.out.set 0 (.int .i64 0)).set 1 (.int .i64 0)).set 2 (.int .i64 0)
     obtain⟨r0,r1,r2,-⟩:=three (show Qca _ w.heap.size #[.int .i64 0,.int .i64 0,.int .i64 0] 27 from Hh)
     have Gv:=hid (((GI.out.setCell (p:=⟨w.heap.size,0,none⟩) (Nat.le_refl _) (.int .i64 0)).setCell (p:=⟨w.heap.size,1,none⟩) (Nat.le_refl _) (.int .i64 0)).setCell (p:=⟨w.heap.size,2,none⟩) (Nat.le_refl _) (.int .i64 0))
     clear Hh
     go_wp2_with fail
     exact bodyPost_ret (v:=.tuple #[.pointer none,.slice none 0 0,.agg #[.int .i64 0,.int .i64 0,.int .i64 0],.int .i64 4]) (by simp[results,Tryz.results40,go_sem,r0,r1,r2]) rfl ⟨Gv.out,by rw[HE.out];exact⟨none,rfl⟩⟩
    | some k=>
     rw[show QJc F main=(k:Int)from by unfold QJc;rw[hf]]at bF
     have oo:=hid bF
     have HE:Hid (R=ldT F (F.length+1) [] [] [] k 0):=hid (by
      rw[HR.out];unfold Qld
      rw[if_neg (by omega),if_neg (by rw[bD];simp),hf])
     have Js:=QOc hf
     clear bF hf
     go_wp2_with fail
     refine(by exact oo.out:Calls _ _ _ _ _).mono ?_
     rintro e w3 ⟨rfl,Hn⟩
     have M8:=hid (ii.out.keeps (Qaa.of_fresh Hn (fun _=>False)) (fun e=>e))
     have GI:=hid (MQ.out.trans (Hn.mono MQ.out.size))
     have fY:=hid ((jN.out (by omega)).new Hn)
     have ME:=QMj (F.length+1) (fun _=>False) _ _ _ _ _ _ F [] [] [] k 0 w3 fY.out (fun g e=>e.elim) Js bJ HT.out (Q7h F) (by simp) rfl (by simp) (by omega) eP (bh.out.keeps (Qaa.of_fresh GI.out (fun _=>False)) (fun e=>e))
     rw[←HE.out]at ME
     have ia:=hid ME
     clear Hn ME
     go_wp2_with fail
     refine(by exact ia.out:Calls _ _ _ _ _).mono ?_
     rintro e w4 ⟨Hr,Gu⟩
     have jd:=fY.out.pos Hr M8.out
     have fn:Below w.heap.size w w4:=GI.out.trans (Hr.below GI.out.size (fun i hi e=>by
      rcases e with e|e|e|e
      ·omega
      ·omega
      ·cases e
      ·cases e))
     cases Hd:R with
     | error x=>
      obtain⟨⟨p1,p2,p3⟩,er⟩:=x
      rw[Hd]at Gu
      simp only at Gu
      subst Gu
      unfold QJb
      have rM:=jd
      have kC:=rM.alloc (.cells #[.int .i64 p1,.int .i64 p2,.int .i64 p3] 27)
      have ck:=Qca.new w4 #[.int .i64 p1,.int .i64 p2,.int .i64 p3] 27
      obtain⟨a0,a1,a2,-,-,-,ql⟩:=three ck
      obtain⟨b0,b1,b2,g0,g1,g2,gl⟩:=three kC
      have Hh:=(((kC.set 0 (.int .i64 p1)).set 1 (.int .i64 p2)).set 2 (.int .i64 p3)).drew
      obtain⟨q0,q1,q2,-⟩:=three (show Qca _ w.heap.size #[.int .i64 p1,.int .i64 p2,.int .i64 p3] 27 from Hh)
      have Gv:=hid ((((fn.alloc fn.size (.cells #[.int .i64 p1,.int .i64 p2,.int .i64 p3] 27)).setCell (p:=⟨w.heap.size,0,none⟩) (Nat.le_refl _) (.int .i64 p1)).setCell (p:=⟨w.heap.size,1,none⟩) (Nat.le_refl _) (.int .i64 p2)).setCell (p:=⟨w.heap.size,2,none⟩) (Nat.le_refl _) (.int .i64 p3)).drew
      have KH:=hid Hd
      clear Hh rM jd kC ck Hr fn Hd
      go_wp2_with fail
      go_region
      all_goals
       go_wp2_with fail
       exact bodyPost_ret (v:=.tuple #[.pointer (some ⟨wr.heap.size+1,0,none⟩),.slice none 0 0,.agg #[.int .i64 p1,.int .i64 p2,.int .i64 p3],.int .i64 er]) (by simp[results,Tryz.results40,go_sem,q0,q1,q2]) rfl ⟨Gv.out,by first|exact⟨_,rfl⟩ | (rw[KH.out];exact⟨_,rfl⟩)⟩
     | ok x=>
      obtain⟨ord9,giv9,out9⟩:=x
      rw[Hd]at Gu
      obtain⟨v,ov9,rv9,rfl,Hb,rF,_,_,_⟩:=Gu
      obtain⟨v1,v2,rfl⟩:=Hb.slice
      unfold QJb
      have kC:=jd.alloc (.cells #[.int .i64 0,.int .i64 0,.int .i64 0] 27)
      have ck:=Qca.new w4 #[.int .i64 0,.int .i64 0,.int .i64 0] 27
      obtain⟨a0,a1,a2,-,-,-,ql⟩:=three ck
      obtain⟨b0,b1,b2,g0,g1,g2,gl⟩:=three kC
      have Hh:=(((kC.set 0 (.int .i64 0)).set 1 (.int .i64 0)).set 2 (.int .i64 0)).drew
      obtain⟨q0,q1,q2,-⟩:=three (show Qca _ w.heap.size #[.int .i64 0,.int .i64 0,.int .i64 0] 27 from Hh)
      have Gv:=hid ((((fn.alloc fn.size (.cells #[.int .i64 0,.int .i64 0,.int .i64 0] 27)).setCell (p:=⟨w.heap.size,0,none⟩) (Nat.le_refl _) (.int .i64 0)).setCell (p:=⟨w.heap.size,1,none⟩) (Nat.le_refl _) (.int .i64 0)).setCell (p:=⟨w.heap.size,2,none⟩) (Nat.le_refl _) (.int .i64 0)).drew
      have kq:=(((((Qaa.refl (· = w.heap.size) w4).alloc (.cells #[.int .i64 0,.int .i64 0,.int .i64 0] 27)).setCell (p:=⟨w.heap.size,0,none⟩) (.inr rfl) (.int .i64 0)).setCell (p:=⟨w.heap.size,1,none⟩) (.inr rfl) (.int .i64 0)).setCell (p:=⟨w.heap.size,2,none⟩) (.inr rfl) (.int .i64 0)).drew
      have hS:∀b,b=w.heap.size→w.heap.size≤b∧∃cs,Qca w4 b cs 27:=by
       rintro b rfl
       exact⟨Nat.le_refl _,_,jd⟩
      have kN:=hid (Hb.side kq (fun b e=>(hS b e).2))
      have fX:=hid (rF.side kq hS)
      have KH:=hid Hd
      clear Hh jd kC ck Hr fn Hd Hb rF kq hS
      go_wp2_with fail
      go_region
      all_goals
       go_wp2_with fail
       exact bodyPost_ret (v:=.tuple #[.pointer (some ⟨wr.heap.size+1,0,none⟩),.slice v1 out9.length v2,.agg #[.int .i64 0,.int .i64 0,.int .i64 0],.int .i64 0]) (by simp[results,Tryz.results40,go_sem,q0,q1,q2]) rfl ⟨Gv.out,by rw[KH.out];exact⟨_,_,_,_,_,rfl,kN.out,fX.out.holds,fX.out.ord⟩⟩
end Go.Proofs.YtofhcgbihonckaaGreat
