/- include: small facts for load's loop (plain and of memory). | include, in plain Lean: what a loading leaves is sound. | include: load: the loader in memory, what holds in its loop. | include: load: what its loop leaves behind each definition, and at its end. | slices.Clone at definitions, parts, cells (printed by gclone.py). | include, in plain Lean: what is loaded does not depend on files that are not included, nor on the order of the files. | include, in plain Lean: how long definitions are. | Contracts of include: copies of definitions. | Contracts of include: copied. | include: load: the if within its loop: where nothing new is read (printed by gld.py) | include: load: the if within its loop: where a file is read (printed by gld.py) -/
import Derived.Test.YtofhcgbihonckaaGreatZ19
import Derived.Test.YtofhcgbihonckaaGreatZ21
import Derived.Test.YtofhcgbihonckaaGreatZ9
import Derived.Test.YtofhcgbihonckaaGreatZ6
import Derived.Test.YtofhcgbihonckaaGreatZ1
import Derived.Test.YtofhcgbihonckaaGreatZ22
import Derived.Test.YtofhcgbihonckaaGreatZ15
import Derived.StillTailTactics
import Derived.Deep.DeepCutAuto
import Derived.Deep.CutBlock
import Derived.Deep.CutRange
import Derived.Deep.LoopGhost
import Derived.Deep.RegionWith
set_option linter.all false
set_option maxHeartbeats 8000000
namespace Go.Proofs.YtofhcgbihonckaaGreat
open Go.Lib (hid)
open Go.RowKit
theorem Q3f{w:World}{base:Nat}{v:Value}{l:List Nat}(h:w.ownsRow base 3 1 v l.length (l.map fun(n:Nat)=>Value.int .i64 (n:Int))):QSl w v l:=by
 rcases h.2 with⟨rfl,h0⟩|⟨g,cap,cur,rfl,hb,hh,hcap,hm,hs,ht⟩
 ·exact⟨none,0,by rw[h0],by omega,fun h1=>by omega⟩
 ·refine⟨_,cap,rfl,hcap,fun h0=>⟨g,0,rfl,fun i hi=>?_⟩⟩
  rw[Nat.zero_add,h.cellAt i (by omega)]
  simp[hi]
theorem QFb{F:List Qoa}{s:ByteArray}{k:Nat}(h:Q2b F s=some k):k<F.length:=by
 unfold Q2b at h
 rw[List.findIdx?_eq_some_iff_getElem]at h
 exact h.1
theorem Q8k(file:Int)(D:List Qwa)(i:Nat)(hi:i<D.length):(QUd file D).drop i=(file,D[i])::(QUd file D).drop (i+1):=by
 have hl:i<(QUd file D).length:=by simpa[QUd]using hi
 rw[List.drop_eq_getElem_cons hl]
 simp[QUd]
theorem Qnn(file:Int)(D:List Qwa):(QUd file D).drop D.length=[]:=List.drop_eq_nil_of_le (by simp[QUd])
theorem QZe{go:List ByteArray→QBb→Nat→Nat→Lr}{F:List Qoa}{opn:List Nat}{before:Nat}{d:FdT}{r:List FdT}{ord:List ByteArray}{giv:QBb}{out:List FdT}(h:d.2.kind≠6) :
 Qza go F opn before (d::r) ord giv out=if Qmb before out<1 then .error (Qef ([d].getD (Qmb before out) Q9d),3)else Qza go F opn before r ord giv (out++[d]):=by
 simp only[Qza,if_pos h]
 rfl
theorem Q3d{go:List ByteArray→QBb→Nat→Nat→Lr}{F:List Qoa}{opn:List Nat}{before:Nat}{d:FdT}{r:List FdT}{ord:List ByteArray}{giv:QBb}{out:List FdT}(h:d.2.kind=6)(hf:Q2b F d.2.name=none) :
 Qza go F opn before (d::r) ord giv out = .error (Qef d,4):=by
 simp only[Qza,if_neg (Decidable.not_not.2 h),hf]
theorem QYc{go:List ByteArray→QBb→Nat→Nat→Lr}{F:List Qoa}{opn:List Nat}{before:Nat}{d:FdT}{r:List FdT}{ord:List ByteArray}{giv:QBb}{out:List FdT}{k:Nat}(h:d.2.kind=6)(hf:Q2b F d.2.name=some k)(hk:opn.contains k=true) :
 Qza go F opn before (d::r) ord giv out = .error (Qef d,10):=by
 simp only[Qza,if_neg (Decidable.not_not.2 h),hf,if_pos hk]
theorem Qsd{go:List ByteArray→QBb→Nat→Nat→Lr}{F:List Qoa}{opn:List Nat}{before:Nat}{d:FdT}{r:List FdT}{ord:List ByteArray}{giv:QBb}{out l:List FdT}{k:Nat}(h:d.2.kind=6)(hf:Q2b F d.2.name=some k)(hk:opn.contains k=false)(hg:Qkd giv k=some l) :
 Qza go F opn before (d::r) ord giv out=if Qmb before out<l.length then .error (Qef (l.getD (Qmb before out) Q9d),3)else Qza go F opn before r ord giv (out++l):=by
 simp only[Qza,if_neg (Decidable.not_not.2 h),hf,hk,Bool.false_eq_true,if_false,hg]
theorem Q0e{go:List ByteArray→QBb→Nat→Nat→Lr}{F:List Qoa}{opn:List Nat}{before:Nat}{d:FdT}{r:List FdT}{ord:List ByteArray}{giv:QBb}{out:List FdT}{k:Nat}(h:d.2.kind=6)(hf:Q2b F d.2.name=some k)(hk:opn.contains k=false)(hg:Qkd giv k=none) :
 Qza go F opn before (d::r) ord giv out=match go ord giv k (before+out.length)with
  | .error e=>.error e
  | .ok (ord',giv',l)=>if Qmb before out<l.length then .error (Qef (l.getD (Qmb before out) Q9d),3)else Qza go F opn before r ord' giv' (out++l):=by
 simp only[Qza,if_neg (Decidable.not_not.2 h),hf,hk,Bool.false_eq_true,if_false,hg]
 rfl
theorem QXh:∀(n:Nat) (l:List Nat),l.Nodup→(∀k∈l,k<n)→l.length≤n
 | 0,[],_,_=>Nat.le_refl _
 | 0,a::l,_,h=>absurd (h a List.mem_cons_self) (by omega)
 | n+1,l,hd,h=>by
  have h1:=QXh n (l.erase n) (hd.erase n) (fun k hk=>by
   have h2:=(hd.mem_erase_iff).1 hk
   have:=h k h2.2
   omega)
  by_cases hm:n∈l
  ·rw[List.length_erase_of_mem hm]at h1;omega
  ·rw[List.erase_of_not_mem hm]at h1;omega
theorem Qdj(l:List UInt8)(file:Int):(Qoe l file).1.length≤6001:=by
 have h8:=(Qke l file).2.1
 rcases Qiq l file with⟨_,_,hi,⟨ks,e,hp,hk⟩,_⟩|h
 ·have hl:(Qoe l file).1.length=ks.length:=by
   have:=congrArg List.length e
   simpa using this
  have h1:=QXh (QUb l file).1.length ks (hp.imp (fun qn e=>by omega)) (fun k hkm=>by
   have h2:=(hk k hkm).2.2
   rcases Nat.lt_or_ge k (QUb l file).1.length with c|c
   ·exact c
   ·exact absurd (by unfold tkN;rw[List.getD_eq_getElem?_getD,List.getElem?_eq_none c];rfl) h2)
  omega
 ·rcases h with h|h
  ·unfold Qoe at h ⊢
   split
   ·simp
   ·split
    ·rename_i h1 _ _ h2
     rw[if_neg h1,h2]at h
     exact absurd rfl h
    ·simp
  ·rw[h];simp
structure Qmc(F:List Qoa)(opn:List Nat)(ord:List ByteArray)(giv:QBb):Prop where
 keys:∃ks:List Nat,giv.map (·.1)=ks.map (fun k:Nat=>(k:Int))∧(ks++opn).Nodup∧∀k∈ks++opn,k<F.length
 len:∀p∈giv,p.2.length≤6000
 ord:ord.length=giv.length+opn.length
section
variable{F:List Qoa}{opn:List Nat}{ord:List ByteArray}{giv:QBb}
theorem Qmc.short(h:Qmc F opn ord giv):giv.length+opn.length≤F.length:=by
 obtain⟨ks,e,hn,hk⟩:=h.keys
 have:=QXh _ _ hn hk
 have hl:=congrArg List.length e
 simp only[List.length_map,List.length_append]at this hl
 omega
theorem Qhm{k:Nat}(h:Qkd giv k=none):∀p∈giv,p.1≠(k:Int):=by
 intro p hp e
 unfold Qkd at h
 rw[Option.map_eq_none_iff,List.find?_eq_none]at h
 exact h p hp (by simp[e])
theorem QHi{k:Nat}{l:List FdT}(h:Qkd giv k=some l):∃i,∃h:i<giv.length,giv[i]=((k:Int),l):=by
 unfold Qkd at h
 rw[Option.map_eq_some_iff]at h
 obtain⟨⟨a,b⟩,h1,h2⟩:=h
 have hm:=List.mem_of_find?_eq_some h1
 have hk:=List.find?_some h1
 simp only[decide_eq_true_eq]at hk h2
 obtain⟨i,hi,e⟩:=List.getElem_of_mem hm
 exact⟨i,hi,by rw[e,hk,h2]⟩
theorem Qmc.open1(h:Qmc F opn ord giv){file:Nat}(hf:file<F.length)(hn:file ∉ opn)(hg:Qkd giv file=none)(s:ByteArray):Qmc F (opn++[file]) (ord++[s]) giv:=by
 obtain⟨ks,e,hd,hk⟩:=h.keys
 refine⟨⟨ks,e,?_,?_⟩,h.len,by have:=h.ord;simp only[List.length_append,List.length_cons,List.length_nil];omega⟩
 ·rw[←List.append_assoc,List.nodup_append]
  refine⟨hd,by simp,fun a ha b hb=>?_⟩
  simp only[List.mem_singleton]at hb
  subst hb
  rintro rfl
  rcases List.mem_append.1 ha with hm|hm
  ·have:((a:Nat):Int)∈giv.map (·.1):=by rw[e];exact List.mem_map.2 ⟨a,hm,rfl⟩
   obtain⟨p,hp,e2⟩:=List.mem_map.1 this
   exact Qhm hg p hp e2
  ·exact hn hm
 ·intro k hm
  rw[←List.append_assoc]at hm
  rcases List.mem_append.1 hm with hm|hm
  ·exact hk k hm
  ·simp only[List.mem_singleton]at hm;subst hm;exact hf
theorem Qmc.close1{file:Nat}(h:Qmc F (opn++[file]) ord giv){out:List FdT}(ho:out.length≤6000):Qmc F opn ord (giv++[((file:Int),out)]):=by
 obtain⟨ks,e,hd,hk⟩:=h.keys
 have hp:(ks++[file]++opn).Perm (ks++(opn++[file])):=by
  rw[List.append_assoc]
  exact List.Perm.append_left ks List.perm_append_comm
 refine⟨⟨ks++[file],by simp[e],hp.nodup_iff.2 hd,fun k hm=>hk k (hp.mem_iff.1 hm)⟩,fun p hm=>?_,?_⟩
 ·rcases List.mem_append.1 hm with hm|hm
  ·exact h.len p hm
  ·simp only[List.mem_singleton]at hm;subst hm;exact ho
 ·have:=h.ord
  simp only[List.length_append,List.length_cons,List.length_nil]at this ⊢
  omega
end
def QFr(F:List Qoa)(opn:List Nat)(go:List ByteArray→QBb→Nat→Nat→Lr):Prop:=
 ∀ord giv k b ord' giv' o,go ord giv k b = .ok (ord',giv',o)→Qmc F opn ord giv→k<F.length→k ∉ opn→Qkd giv k=none→b≤6000→Qmc F opn ord' giv'∧b+o.length≤6000
theorem QYe{F:List Qoa}{opn:List Nat}{go:List ByteArray→QBb→Nat→Nat→Lr}(MI:QFr F opn go)(before:Nat):∀(r:List FdT) (ord:List ByteArray) (giv:QBb) (out:List FdT) (ord':List ByteArray) (giv':QBb) (out':List FdT),
 Qza go F opn before r ord giv out = .ok (ord',giv',out')→Qmc F opn ord giv→before+out.length≤6000→Qmc F opn ord' giv'∧before+out'.length≤6000
 | [],ord,giv,out,ord',giv',out',h,hg,hb=>by
  simp only[Qza,Except.ok.injEq,Prod.mk.injEq]at h
  obtain⟨rfl,rfl,rfl⟩:=h
  exact⟨hg,hb⟩
 | d::r,ord,giv,out,ord',giv',out',h,hg,hb=>by
  by_cases hk:d.2.kind=6
  ·cases hf:Q2b F d.2.name with
   | none=>rw[Q3d hk hf]at h;cases h
   | some k=>
    cases ho:opn.contains k with
    | true=>rw[QYc hk hf ho]at h;cases h
    | false=>
     have Jm:k ∉ opn:=fun hm=>by rw[List.contains_iff_mem.2 hm]at ho;cases ho
     cases hv:Qkd giv k with
     | some l=>
      rw[Qsd hk hf ho hv]at h
      split at h
      ·cases h
      ·rename_i hr
       exact QYe MI before r _ _ _ _ _ _ h hg (by unfold Qmb at hr;rw[List.length_append];omega)
     | none=>
      rw[Q0e hk hf ho hv]at h
      cases hgo2:go ord giv k (before+out.length)with
      | error e=>rw[hgo2]at h;cases h
      | ok x=>
       obtain⟨o1,g1,l⟩:=x
       rw[hgo2]at h
       simp only at h
       obtain⟨q1,q2⟩:=MI _ _ _ _ _ _ _ hgo2 hg (QFb hf) Jm hv hb
       split at h
       ·cases h
       ·exact QYe MI before r _ _ _ _ _ _ h q1 (by rw[List.length_append];omega)
  ·rw[QZe hk]at h
   split at h
   ·cases h
   ·rename_i hr
    exact QYe MI before r _ _ _ _ _ _ h hg (by unfold Qmb at hr;rw[List.length_append,List.length_singleton];omega)
theorem Qkh(F:List Qoa):∀(f:Nat) (opn:List Nat),QFr F opn (ldT F f opn)
 | 0,opn=>fun ord giv k b ord' giv' o h=>by simp only[ldT]at h;cases h
 | f+1,opn=>fun ord giv k b ord' giv' o h hg hk hn hv hb=>by
  simp only[ldT]at h
  split at h
  ·cases h
  ·cases hl:Qza (ldT F f (opn++[k])) F (opn++[k]) b (QUd k (Qoe (F.getD k ⟨⟨#[]⟩,⟨#[]⟩⟩).text.data.toList k).1) (ord++[(F.getD k ⟨⟨#[]⟩,⟨#[]⟩⟩).name]) giv []with
   | error e=>rw[hl]at h;cases h
   | ok x=>
    obtain⟨o1,g1,l⟩:=x
    rw[hl]at h
    simp only[Except.ok.injEq,Prod.mk.injEq]at h
    obtain⟨rfl,rfl,rfl⟩:=h
    obtain⟨q1,q2⟩:=QYe (Qkh F f (opn++[k])) b _ _ _ _ _ _ _ hl (hg.open1 hk hn hv _) (by simpa using hb)
    exact⟨q1.close1 (by omega),q2⟩
theorem Qfe{F:List Qoa}{opn:List Nat}{go:List ByteArray→QBb→Nat→Nat→Lr}(MI:∀ord giv k b p er,go ord giv k b = .error (p,er)→er≠0)(before:Nat):∀(r:List FdT) (ord:List ByteArray) (giv:QBb) (out:List FdT) (p:Qag) (er:Int),
 Qza go F opn before r ord giv out = .error (p,er)→er≠0
 | [],ord,giv,out,p,er,h=>by simp only[Qza]at h;cases h
 | d::r,ord,giv,out,p,er,h=>by
  by_cases hk:d.2.kind=6
  ·cases hf:Q2b F d.2.name with
   | none=>rw[Q3d hk hf]at h;cases h;decide
   | some k=>
    cases ho:opn.contains k with
    | true=>rw[QYc hk hf ho]at h;cases h;decide
    | false=>
     cases hv:Qkd giv k with
     | some l=>
      rw[Qsd hk hf ho hv]at h
      split at h
      ·cases h;decide
      ·exact Qfe MI before r _ _ _ _ _ h
     | none=>
      rw[Q0e hk hf ho hv]at h
      cases hgo2:go ord giv k (before+out.length)with
      | error e=>rw[hgo2]at h;cases h;exact MI _ _ _ _ _ _ hgo2
      | ok x=>
       rw[hgo2]at h
       simp only at h
       split at h
       ·cases h;decide
       ·exact Qfe MI before r _ _ _ _ _ h
  ·rw[QZe hk]at h
   split at h
   ·cases h;decide
   ·exact Qfe MI before r _ _ _ _ _ h
theorem QMj(F:List Qoa):∀(f:Nat) (opn:List Nat) (ord:List ByteArray) (giv:QBb) (k b:Nat) (p:Qag) (er:Int),ldT F f opn ord giv k b = .error (p,er)→er≠0
 | 0,opn,ord,giv,k,b,p,er,h=>by simp only[ldT]at h;cases h;decide
 | f+1,opn,ord,giv,k,b,p,er,h=>by
  simp only[ldT]at h
  split at h
  ·cases h;assumption
  ·cases hl:Qza (ldT F f (opn++[k])) F (opn++[k]) b (QUd k (Qoe (F.getD k ⟨⟨#[]⟩,⟨#[]⟩⟩).text.data.toList k).1) (ord++[(F.getD k ⟨⟨#[]⟩,⟨#[]⟩⟩).name]) giv []with
   | error e=>
    rw[hl]at h
    cases h
    exact Qfe (QMj F f (opn++[k])) b _ _ _ _ _ _ hl
   | ok x=>rw[hl]at h;cases h
end Go.Proofs.YtofhcgbihonckaaGreat
namespace Go.Proofs.YtofhcgbihonckaaGreat
open Go.Lib (hid)
open Go.RowKit Go.ChangeMaps
def Qjc(l:List Nat):List Value:=l.map fun(n:Nat)=>Value.int .i64 (n:Int)
def QDb(l:List ByteArray):List Value:=l.map fun s=>Value.string s
structure QOf(A:Nat→Prop)(w:World)(lb mb base:Nat)(fv ov rv:Value)(F:List Qoa)(opn:List Nat)(ord:List ByteArray)(giv:QBb):Prop where
 holds:Qca w lb (ldC fv mb ov rv) 95
 files:QZa w fv F
 low:∀g,fv.ownBlock=some g→g<base
 opn:w.ownsRow base 3 1 ov opn.length (Qjc opn)
 ord:w.ownsRow base 9 1 rv ord.length (QDb ord)
 giv:∃gvs:List (Int × Value),Qhd w mb gvs∧gvs.length=giv.length∧∀i (h:i<giv.length) (h2:i<gvs.length),gvs[i].1=giv[i].1∧Qsa w base gvs[i].2 giv[i].2∧∀g,gvs[i].2.ownBlock=some g→¬A g
 lbb:base≤lb
 mbb:base≤mb
 size:base≤w.heap.size
def LdS(lb mb:Nat)(ov rv:Value)(i:Nat):Prop:=i=lb∨i=mb∨ov.ownBlock=some i∨rv.ownBlock=some i
def Q5c(w:World)(v v':Value):Prop:=∀g,v'.ownBlock=some g→v.ownBlock=some g∨w.heap.size≤g
theorem Q5c.refl(w:World)(v:Value):Q5c w v v:=fun _ h=>.inl h
theorem Q5c.trans{w w':World}{a b c:Value}(h:Q5c w a b)(k:Q5c w' b c)(hs:w.heap.size≤w'.heap.size):Q5c w a c:=by
 intro g hg
 rcases k g hg with e|e
 ·exact h g e
 ·exact .inr (by omega)
def QOo(A:Nat→Prop)(lb mb base:Nat)(fv ov rv:Value)(F:List Qoa)(opn:List Nat)(R:Lr)(w:World)(e:Ending)(w':World):Prop:=
 Qaa (LdS lb mb ov rv) w w'∧match R with
 | .error (p,er)=>e = .returned (.tuple #[.slice none 0 0,QGb p,.int .i64 er])
 | .ok (ord',giv',out)=>∃v ov' rv',e = .returned (.tuple #[v,QGb (0,0,0),.int .i64 0])∧Qsa w' base v out∧QOf A w' lb mb base fv ov' rv' F opn ord' giv'∧(∀g,v.ownBlock=some g→w.heap.size≤g)∧Q5c w ov ov'∧Q5c w rv rv'
def QFh(fuel:Nat):Prop:=∀(A:Nat→Prop) (lb mb base:Nat) (fv ov rv:Value) (F:List Qoa) (opn:List Nat) (ord:List ByteArray) (giv:QBb) (file before:Nat) (w:World),QOf A w lb mb base fv ov rv F opn ord giv→(∀g,A g→g<w.heap.size)→
    file<F.length→F.length≤8→(∀f∈F,f.text.size≤maxLen∧f.name.size≤maxLen)→Qmc F opn ord giv→file ∉ opn→Qkd giv file=none→F.length<opn.length+fuel→before≤6000→0<base→QFf w→
    Calls Tryz.prog 72 #[.pointer (some ⟨lb,0,none⟩),.int .i64 (file:Int),.int .i64 (before:Int)] w (QOo A lb mb base fv ov rv F opn (ldT F fuel opn ord giv file before) w)
theorem QHk:(Tryz.prog.info? 3).map (fun i=>(i.zero,i.size,i.bytes))=some (some (.int .i64 0),1,8):=by kernel_rfl
theorem QIk:(Tryz.prog.info? 9).map (fun i=>(i.zero,i.size,i.bytes))=some (some (.string ⟨#[]⟩),1,16):=by kernel_rfl
theorem QGk:(Tryz.prog.info? 34).map (fun i=>(i.zero,i.size,i.bytes))=some (some (.agg #[.int .i64 0,.string ⟨#[]⟩,.string ⟨#[]⟩,.slice none 0 0,.int .i64 0,.int .i64 0,.int .i64 0]),7,88):=by kernel_rfl
section
variable{A:Nat→Prop}{w w':World}{lb mb base:Nat}{fv ov rv:Value}{F:List Qoa}{opn:List Nat}{ord:List ByteArray}{giv:QBb}
theorem QOf.typed(h:QOf A w lb mb base fv ov rv F opn ord giv){i:Nat}(hi:LdS lb mb ov rv i){cs:Array Value}{t:TypeId}(hc:Qca w i cs t):t=95∨t=3∨t=9:=by
 rcases hi with rfl|rfl|e|e
 ·have:=h.holds.symm.trans hc
  injection this with this;injection this with _ this;exact .inl this.symm
 ·obtain⟨gvs,⟨es,clock,hb,_⟩,_⟩:=h.giv
  have:=hb.symm.trans hc
  injection this with this;cases this
 ·obtain⟨_,_,cur,hb⟩:=Qpa h.opn e
  have:=hb.symm.trans hc
  injection this with this;injection this with _ this;exact .inr (.inl this.symm)
 ·obtain⟨_,_,cur,hb⟩:=Qpa h.ord e
  have:=hb.symm.trans hc
  injection this with this;injection this with _ this;exact .inr (.inr this.symm)
theorem QOf.fds(h:QOf A w lb mb base fv ov rv F opn ord giv)(k:Qaa (LdS lb mb ov rv) w w'){b2:Nat}{v:Value}{l:List FdT}(r:Qsa w b2 v l):Qsa w' b2 v l:=by
 refine r.keeps k (fun g hg hS=>?_) (fun b _ hS cur=>⟨fun hc=>?_,fun hc=>?_⟩)
 ·obtain⟨_,_,hr,_⟩:=id r
  obtain⟨_,_,cur,hb⟩:=Qpa hr hg
  rcases h.typed hS hb with e|e|e <;> exact absurd e (by decide)
 ·rcases h.typed hS hc with e|e|e <;> exact absurd e (by decide)
 ·rcases h.typed hS hc with e|e|e <;> exact absurd e (by decide)
theorem QOf.pos(h:QOf A w lb mb base fv ov rv F opn ord giv)(k:Qaa (LdS lb mb ov rv) w w'){b:Nat}{cs:Array Value}(r:Qca w b cs 27):Qca w' b cs 27:=by
 refine r.keeps k (fun hS=>?_)
 rcases h.typed hS r with e|e|e <;> exact absurd e (by decide)
theorem QOf.new(h:QOf A w lb mb base fv ov rv F opn ord giv)(k:Below w.heap.size w w'):QOf A w' lb mb base fv ov rv F opn ord giv:=by
 have kf:Qaa (fun _=>False) w w':=Qaa.of_fresh k _
 obtain⟨gvs,hg,h1,h2⟩:=h.giv
 exact⟨h.holds.keeps kf (fun e=>e),h.files.new k,h.low,Qba h.opn kf (fun _ _ e=>e),Qba h.ord kf (fun _ _ e=>e),⟨gvs,hg.keeps kf (fun e=>e),h1,fun i hi Kc=>⟨(h2 i hi Kc).1,(h2 i hi Kc).2.1.new k,(h2 i hi Kc).2.2⟩⟩,h.lbb,h.mbb,Nat.le_trans h.size k.size⟩
theorem QPi(k:Nat):∀(giv:QBb) (gvs:List (Int × Value)),gvs.length=giv.length→(∀i (h:i<giv.length) (h2:i<gvs.length),gvs[i].1=giv[i].1)→
 (Qkd giv k=none∧QTd gvs k=(.slice none 0 0,false))∨∃i,∃h:i<giv.length,∃h2:i<gvs.length,Qkd giv k=some giv[i].2∧QTd gvs k=(gvs[i].2,true)
 | [],[],_,_=>.inl ⟨rfl,rfl⟩
 | p::giv,q::gvs,hl,he=>by
  have e0:q.1=p.1:=he 0 (by simp) (by simp)
  by_cases hk:p.1=(k:Int)
  ·exact .inr ⟨0,by simp,by simp,by simp[Qkd,hk],by simp[QTd,e0,hk]⟩
  ·have e1:Qkd (p::giv) k=Qkd giv k:=by simp[Qkd,hk]
   have e2:QTd (q::gvs) k=QTd gvs k:=by simp[QTd,e0,hk]
   rw[e1,e2]
   rcases QPi k giv gvs (by simpa using hl) (fun i h h2=>he (i+1) (by simpa using h) (by simpa using h2))with h|⟨i,h,h2,h3,h4⟩
   ·exact .inl h
   ·exact .inr ⟨i+1,by simpa using h,by simpa using h2,h3,h4⟩
theorem QOf.look(h:QOf A w lb mb base fv ov rv F opn ord giv)(hg:Qmc F opn ord giv)(k:Nat)(hk:k≤1000) :
 ∃v b,(Instr.lookup 93 (.map (some mb)) (.int .i64 k) true).run Tryz.prog w = .ok (.tuple #[v,.bool b]) w∧((Qkd giv k=none∧b=false∧v = .slice none 0 0)∨∃l,Qkd giv k=some l∧b=true∧Qsa w base v l∧l.length≤6000∧∀g,v.ownBlock=some g→¬A g):=by
 obtain⟨gvs,hJ,h1,h2⟩:=h.giv
 have hd:(gvs.map (·.1)).Nodup:=by
  obtain⟨ks,e,hn,_⟩:=hg.keys
  have e2:gvs.map (·.1)=giv.map (·.1):=by
   apply List.ext_getElem (by simp[h1])
   intro i a b
   simp only[List.getElem_map]
   exact(h2 i (by simpa using b) (by simpa using a)).1
  rw[e2,e]
  have Jq:ks.Nodup:=(List.nodup_append.1 hn).1
  exact List.Pairwise.map _ (fun a b qn e=>qn (by omega)) Jq
 refine⟨_,_,hJ.look hd k (by omega),?_⟩
 rcases QPi k giv gvs h1 (fun i a b=>(h2 i a b).1)with⟨e1,e2⟩|⟨i,a,b,e1,e2⟩
 ·rw[e2];exact .inl ⟨e1,rfl,rfl⟩
 ·rw[e2];exact .inr ⟨_,e1,rfl,(h2 i a b).2.1,hg.len _ (List.getElem_mem a),(h2 i a b).2.2⟩
end
structure LdW(A:Nat→Prop)(lb mb base pb qb:Nat)(fv ov rv dv:Value)(F:List Qoa)(opn2:List Nat)(file:Int)(D:List Qwa)(before:Nat)(w0:World)(outv:Value)(ord:List ByteArray)(giv:QBb)(out:List FdT)(wr:World):Prop where
 ld:∃ov' rv',QOf (fun g=>A g∨outv.ownBlock=some g) wr lb mb base fv ov' rv' F opn2 ord giv∧Q5c w0 ov ov'∧Q5c w0 rv rv'
 row:Qsa wr base outv out
 new:∀g,outv.ownBlock=some g→w0.heap.size≤g
 len:before+out.length≤6000
 defs:Qsa wr base dv (QUd file D)
 pos:Qca wr pb #[.int .i64 0,.int .i64 0,.int .i64 0] 27
 tmp:∃x y z,Qca wr qb #[.int .i64 x,.int .i64 y,.int .i64 z] 27
 ok:Qmc F opn2 ord giv
 keeps:Qaa (LdS lb mb ov rv) w0 wr
 low:w0.heap.size≤pb∧w0.heap.size≤qb∧pb≠qb
 sep:∀g,dv.ownBlock=some g→outv.ownBlock≠some g
section
variable{A:Nat→Prop}{w0 w w':World}{lb mb base pb qb before:Nat}{fv ov rv dv outv:Value}{F:List Qoa}{opn2:List Nat}{ord:List ByteArray}{giv:QBb}{file:Int}{D:List Qwa}{out:List FdT}
theorem LdW.new1(h:LdW A lb mb base pb qb fv ov rv dv F opn2 file D before w0 outv ord giv out w)(k:Below w.heap.size w w'):LdW A lb mb base pb qb fv ov rv dv F opn2 file D before w0 outv ord giv out w':=by
 obtain⟨ov',rv',h1,h2,h3⟩:=h.ld
 obtain⟨x,y,z,ht⟩:=h.tmp
 exact⟨⟨ov',rv',h1.new k,h2,h3⟩,h.row.new k,h.new,h.len,h.defs.new k,h.pos.keeps (Qaa.of_fresh k (fun _=>False)) (fun e=>e),⟨x,y,z,ht.keeps (Qaa.of_fresh k (fun _=>False)) (fun e=>e)⟩,h.ok,h.keeps.trans (Qaa.of_fresh k (LdS lb mb ov rv)) (fun _ _ e=>e),h.low,h.sep⟩
theorem Qsa.side{S:Nat→Prop}{b2:Nat}{v:Value}{l:List FdT}(r:Qsa w b2 v l)(k:Qaa S w w')(hS:∀b,S b→∃cs,Qca w b cs 27):Qsa w' b2 v l:=by
 have Hn:∀{b:Nat} {cs:Array Value} {t:TypeId},S b→Qca w b cs t→t=27:=by
  intro b cs t hb hc
  obtain⟨_,h2⟩:=hS b hb
  have:=h2.symm.trans hc
  injection this with this;injection this with _ this;exact this.symm
 refine r.keeps k (fun g hg hs=>?_) (fun b _ hs cur=>⟨fun hc=>?_,fun hc=>?_⟩)
 ·obtain⟨_,_,hr,_⟩:=id r
  obtain⟨_,_,cur,hb⟩:=Qpa hr hg
  exact absurd (Hn hs hb) (by decide)
 ·exact absurd (Hn hs hc) (by decide)
 ·exact absurd (Hn hs hc) (by decide)
theorem QOf.side{S:Nat→Prop}{A:Nat→Prop}{ov rv:Value}{opn:List Nat}(h:QOf A w lb mb base fv ov rv F opn ord giv)(k:Qaa S w w')(hS:∀b,S b→base≤b∧∃cs,Qca w b cs 27):QOf A w' lb mb base fv ov rv F opn ord giv:=by
 have Hn:∀{b:Nat} {cs:Array Value} {t:TypeId},S b→Qca w b cs t→t=27:=by
  intro b cs t hb hc
  obtain⟨_,_,h2⟩:=hS b hb
  have:=h2.symm.trans hc
  injection this with this;injection this with _ this;exact this.symm
 obtain⟨gvs,hg,h1,h2⟩:=h.giv
 refine⟨h.holds.keeps k (fun e=>absurd (Hn e h.holds) (by decide)),?_,h.low,Qba h.opn k (fun g hg e=>?_),Qba h.ord k (fun g hg e=>?_),⟨gvs,hg.keeps k (fun e=>?_),h1,fun i hi Kc=>⟨(h2 i hi Kc).1,(h2 i hi Kc).2.1.side k (fun b hb=>(hS b hb).2),(h2 i hi Kc).2.2⟩⟩,h.lbb,h.mbb,Nat.le_trans h.size k.size⟩
 ·obtain⟨a,cap,hv,h3,h4,h5⟩:=h.files
  refine⟨a,cap,hv,h3,h4,fun h0=>?_⟩
  obtain⟨g,o,rfl,hg,hc⟩:=h5 h0
  have hn:¬S g:=fun e=>by
   have e1:=(hS g e).1
   have e2:=h.low g (by rw[hv];rfl)
   omega
  exact⟨g,o,rfl,Nat.lt_of_lt_of_le hg k.size,fun i hi=>⟨(k.cell (p:=⟨g,o+i*2,none⟩) hg hn).trans (hc i hi).1,(k.cell (p:=⟨g,o+i*2+1,none⟩) hg hn).trans (hc i hi).2⟩⟩
 ·obtain⟨_,_,cur,hb⟩:=Qpa h.opn hg
  exact absurd (Hn e hb) (by decide)
 ·obtain⟨_,_,cur,hb⟩:=Qpa h.ord hg
  exact absurd (Hn e hb) (by decide)
 ·obtain⟨es,clock,hb,_⟩:=hg
  obtain⟨_,_,h3⟩:=hS mb e
  have:=hb.symm.trans h3
  injection this with this;cases this
theorem LdW.turn(h:LdW A lb mb base pb qb fv ov rv dv F opn2 file D before w0 outv ord giv out w)(GM:base≤w0.heap.size){ov' rv' ov2 rv2:Value}{ord2:List ByteArray}{giv2:QBb}(Kv:Q5c w0 ov ov')(gN:Q5c w0 rv rv')(hL:QOf (fun g=>A g∨outv.ownBlock=some g) w lb mb base fv ov' rv' F opn2 ord giv)
 (k:Qaa (LdS lb mb ov' rv') w w') (qm:QOf (fun g=>A g∨outv.ownBlock=some g) w' lb mb base fv ov2 rv2 F opn2 ord2 giv2) (kT:Qmc F opn2 ord2 giv2) (G5:Q5c w ov' ov2) (G6:Q5c w rv' rv2) (x y z:Int) :
 LdW A lb mb base pb qb fv ov rv dv F opn2 file D before w0 outv ord2 giv2 out (((w'.setCell ⟨qb,0,none⟩ (.int .i64 x)).setCell ⟨qb,1,none⟩ (.int .i64 y)).setCell ⟨qb,2,none⟩ (.int .i64 z)):=by
 obtain⟨x0,y0,z0,ht⟩:=h.tmp
 have ht':=hL.pos k ht
 have hp':=hL.pos k h.pos
 have hs:=k.size
 have JZ:=h.keeps.size
 have kq:Qaa (· = qb) w' (((w'.setCell ⟨qb,0,none⟩ (.int .i64 x)).setCell ⟨qb,1,none⟩ (.int .i64 y)).setCell ⟨qb,2,none⟩ (.int .i64 z)):=
  (((Qaa.refl (· = qb) w').setCell (p:=⟨qb,0,none⟩) (.inr rfl) _).setCell (p:=⟨qb,1,none⟩) (.inr rfl) _).setCell (p:=⟨qb,2,none⟩) (.inr rfl) _
 have hS:∀b,b=qb→base≤b∧∃cs,Qca w' b cs 27:=by
  rintro b rfl
  exact⟨by have:=h.low.2.1;omega,_,ht'⟩
 refine⟨⟨ov2,rv2,qm.side kq hS,Kv.trans G5 JZ,gN.trans G6 JZ⟩,(hL.fds k h.row).side kq (fun b e=>(hS b e).2),h.new,h.len,(hL.fds k h.defs).side kq (fun b e=>(hS b e).2),hp'.keeps kq (fun e=>h.low.2.2 e),⟨x,y,z,((ht'.set 0 _).set 1 _).set 2 _⟩,kT,?_,h.low,h.sep⟩
 refine(h.keeps.trans k ?_).trans kq ?_
 ·rintro i hi (e|e|e|e)
  ·exact .inl e
  ·exact .inr (.inl e)
  ·rcases Kv i e with e2|e2
   ·exact .inr (.inr (.inl e2))
   ·omega
  ·rcases gN i e with e2|e2
   ·exact .inr (.inr (.inr e2))
   ·omega
 ·rintro i hi rfl
  have:=h.low.2.1
  omega
end
end Go.Proofs.YtofhcgbihonckaaGreat
namespace Go.Proofs.YtofhcgbihonckaaGreat
open Go.Lib (hid)
open Go.RowKit Go.ChangeMaps
theorem QYk{w:World}{B base:Nat}{e:TypeId}{size n:Nat}{cs:Array Value}(hB:w.heap.size=B)(hb:base≤B)(hs:cs.size=n*size)(hn:n≤1000):(w.alloc (.cells cs e)).ownsRow base e size (.slice (some ⟨B,0,none⟩) n n) n cs.toList:=by
 subst hB
 refine⟨by simpa using hs,.inr ⟨w.heap.size,n,cs,rfl,hb,heap_alloc_new w _,Nat.le_refl _,by unfold maxLen;omega,hs,?_⟩⟩
 rw[List.take_of_length_le (by simp[hs])]
theorem Qha.keep2{w w':World}{base:Nat}{v:Value}{ps:List QRa}{S:Nat→Prop}(h:Qha w base v ps)(k:Qaa S w w')(ha:∀b,b<w.heap.size→S b→∀cur,¬Qca w b cur 72∧¬Qca w b cur 75):Qha w' base v ps:=by
 obtain⟨us,u1,u2,u3⟩:=h
 have key:∀{e:TypeId} {size n:Nat} {u:Value} {xs:List Value},w.ownsRow base e size u n xs→(e=72∨e=75)→∀g,u.ownBlock=some g→¬S g:=by
  intro e size n u xs hr he g hg hS
  obtain⟨b1,_,cur,b2⟩:=Qpa hr hg
  rcases he with rfl|rfl
  ·exact(ha g b1 hS cur).1 b2
  ·exact(ha g b1 hS cur).2 b2
 exact⟨us,u1,Qba u2 k (key u2 (.inr rfl)),fun i hi Kc=>Qba (u3 i hi Kc) k (key (u3 i hi Kc) (.inl rfl))⟩
theorem QCe:∀(l:List FdT) (vs:List Value),(∀u∈vs,u.oneCell'=true)→∀u∈QEa l vs,u.oneCell'=true
 | [],_,_,u,hu=>by cases hu
 | x::xs,[],_,u,hu=>by cases hu
 | x::xs,v::vs,h,u,hu=>by
  simp only[QEa,List.mem_cons]at hu
  rcases hu with rfl|rfl|rfl|rfl|rfl|rfl|rfl|hu
  ·rfl
  ·rfl
  ·rfl
  ·exact h _ List.mem_cons_self
  ·rfl
  ·rfl
  ·rfl
  ·exact QCe xs vs (fun u hu=>h u (List.mem_cons_of_mem _ hu)) u hu
theorem Qsa.src{w:World}{base:Nat}{v:Value}{l:List FdT}(h:Qsa w base v l):∃us:List Value,us.length=l.length∧Src Tryz.prog 7 25 v l.length (QEa l us) w∧∀k (h:k<l.length) (h2:k<us.length),Qha w base us[k] l[k].2.parts:=by
 obtain⟨us,h1,h2,h3⟩:=h
 have gP:∀u∈us,u.oneCell'=true:=by
  intro u hu
  obtain⟨k,hk,rfl⟩:=List.getElem_of_mem hu
  obtain⟨a,c,e⟩:=(h3 k (by omega) hk).slice
  rw[e];rfl
 refine⟨us,h1,?_,h3⟩
 have hc:=QCe l us gP
 have hl:=Qng l us h1
 rcases id h2.2 with⟨rfl,h0⟩|⟨g,cap,cur,rfl,_⟩
 ·have:l=[]:=List.eq_nil_of_length_eq_zero h0
  subst this
  have:us=[]:=List.eq_nil_of_length_eq_zero h1
  subst this
  exact Src.ofNil w Tryz.underlying25 0
 ·exact Src.ofSlice w Tryz.underlying25 _ _ _ _ hl (h2.cells (g:=g) rfl) hc
section
variable{A:Nat→Prop}{w0 w:World}{lb mb base pb qb before:Nat}{fv ov rv dv outv:Value}{F:List Qoa}{opn2:List Nat}{ord:List ByteArray}{giv:QBb}{file:Int}{D:List Qwa}{out:List FdT}
theorem LdW.typed(h:LdW A lb mb base pb qb fv ov rv dv F opn2 file D before w0 outv ord giv out w){g:Nat}(hg:outv.ownBlock=some g){cs:Array Value}{t:TypeId}(hc:Qca w g cs t):t=34:=by
 obtain⟨_,_,hr,_⟩:=h.row
 obtain⟨_,_,cur,hb⟩:=Qpa hr hg
 have:=hb.symm.trans hc
 injection this with this;injection this with _ this;exact this.symm
theorem LdW.app(h:LdW A lb mb base pb qb fv ov rv dv F opn2 file D before w0 outv ord giv out w)(GM:base≤w0.heap.size){mv:Value}{m:List FdT}(hm:Qsa w base mv m)(hl:m.length≤Qmb before out) :
 ∃vs us,w.ownsRow base 34 7 outv out.length (QEa out vs)∧Src Tryz.prog 7 25 mv m.length (QEa m us) w∧∀v' w',w'.ownsRow base 34 7 v' (out.length+m.length) (QEa out vs++QEa m us)→w.grownBy w' outv.ownBlock→(v'.ownBlock=outv.ownBlock∨v'.ownBlock=some w.heap.size)→
  LdW A lb mb base pb qb fv ov rv dv F opn2 file D before w0 v' ord giv (out++m) w':=by
 obtain⟨vs,h1,h2,h3⟩:=id h.row
 obtain⟨us,k1,k2,k3⟩:=hm.src
 refine⟨vs,us,h2,k2,fun v' w' Hi Hb Gg=>?_⟩
 have kk:Qaa (fun i=>outv.ownBlock=some i) w w':=Qaa.of_grown Hb (fun _ e=>e)
 have ha:∀b,b<w.heap.size→outv.ownBlock=some b→∀cur,¬Qca w b cur 72∧¬Qca w b cur 75:=fun b _ hb cur=>
  ⟨fun hc=>absurd (h.typed hb hc) (by decide),fun hc=>absurd (h.typed hb hc) (by decide)⟩
 obtain⟨ov',rv',hL,Kv,gN⟩:=h.ld
 have mz:∀g,v'.ownBlock=some g→outv.ownBlock=some g∨w.heap.size≤g:=by
  intro g hg
  rcases Gg with e|e
  ·exact .inl (e ▸ hg)
  ·rw[e]at hg;cases hg;exact .inr (Nat.le_refl _)
 have JZ:=h.keeps.size
 obtain⟨gvs,hJ,g1,g2⟩:=hL.giv
 obtain⟨x,y,z,ht⟩:=h.tmp
 have Hc:Qsa w' base v' (out++m):=Qsa.app h1 k1 Hi (fun k a b=>(h3 k a b).keep2 kk ha) (fun k a b=>(k3 k a b).keep2 kk ha)
 have fB:QOf (fun g=>A g∨v'.ownBlock=some g) w' lb mb base fv ov' rv' F opn2 ord giv:=by
  refine⟨hL.holds.keeps kk (fun e=>absurd (h.typed e hL.holds) (by decide)),?_,hL.low,Qba hL.opn kk (fun g hg e=>?_),Qba hL.ord kk (fun g hg e=>?_),⟨gvs,hJ.keeps kk (fun e=>?_),g1,fun i a b=>⟨(g2 i a b).1,(g2 i a b).2.1.keeps kk (fun g hg e=>(g2 i a b).2.2 g hg (.inr e)) ha,fun g hg e=>?_⟩⟩,hL.lbb,hL.mbb,Nat.le_trans hL.size kk.size⟩
  ·obtain⟨a,cap,hv,h3,h4,h5⟩:=hL.files
   refine⟨a,cap,hv,h3,h4,fun h0=>?_⟩
   obtain⟨g,o,rfl,hg,hc⟩:=h5 h0
   have hn:¬(outv.ownBlock=some g):=fun e=>by
    have e1:=h.new g e
    have e2:=hL.low g (by rw[hv];rfl)
    omega
   exact⟨g,o,rfl,Nat.lt_of_lt_of_le hg kk.size,fun i hi=>⟨(kk.cell (p:=⟨g,o+i*2,none⟩) hg hn).trans (hc i hi).1,(kk.cell (p:=⟨g,o+i*2+1,none⟩) hg hn).trans (hc i hi).2⟩⟩
  ·obtain⟨_,_,cur,hb⟩:=Qpa hL.opn hg
   exact absurd (h.typed e hb) (by decide)
  ·obtain⟨_,_,cur,hb⟩:=Qpa hL.ord hg
   exact absurd (h.typed e hb) (by decide)
  ·obtain⟨es,clock,hb,_⟩:=hJ
   obtain⟨_,_,cur,h3⟩:=Qpa h2 e
   have:=hb.symm.trans h3
   injection this with this;cases this
  ·rcases e with e|e
   ·exact(g2 i a b).2.2 g hg (.inl e)
   ·rcases mz g e with e2|e2
    ·exact(g2 i a b).2.2 g hg (.inr e2)
    ·obtain⟨_,_,hr,_⟩:=(g2 i a b).2.1
     have:=(Qpa hr hg).1
     omega
 refine⟨⟨ov',rv',fB,Kv,gN⟩,Hc,fun g hg=>?_,by rw[List.length_append];have:=h.len;unfold Qmb at hl;omega,h.defs.keeps kk (fun g hg e=>h.sep g hg e) ha,h.pos.keeps kk (fun e=>absurd (h.typed e h.pos) (by decide)),⟨x,y,z,ht.keeps kk (fun e=>absurd (h.typed e ht) (by decide))⟩,h.ok,h.keeps.trans kk (fun i hi e=>?_),h.low,fun g hg e=>?_⟩
 ·rcases mz g hg with e|e
  ·exact h.new g e
  ·omega
 ·have:=h.new i e;omega
 ·rcases mz g e with e2|e2
  ·exact h.sep g hg e2
  ·obtain⟨_,_,hr,_⟩:=h.defs
   have:=(Qpa hr hg).1
   omega
end
theorem QOf.begin{A:Nat→Prop}{w w5:World}{lb mb base:Nat}{fv ov rv ov5 rv5:Value}{F:List Qoa}{opn opn2:List Nat}{ord ord2:List ByteArray}{giv:QBb}(h:QOf A w lb mb base fv ov rv F opn ord giv)(k:Qaa (fun i=>i=lb∨ov.ownBlock=some i∨rv.ownBlock=some i) w w5)
 (hH:Qca w5 lb (ldC fv mb ov5 rv5) 95) (hO:w5.ownsRow base 3 1 ov5 opn2.length (Qjc opn2)) (hR:w5.ownsRow base 9 1 rv5 ord2.length (QDb ord2)) :
 QOf (fun g=>A g∨Value.ownBlock (.slice none 0 0)=some g) w5 lb mb base fv ov5 rv5 F opn2 ord2 giv:=by
 have kS:Qaa (LdS lb mb ov rv) w w5:=k.mono (fun i _ e=>by
  rcases e with e|e|e
  ·exact .inl e
  ·exact .inr (.inr (.inl e))
  ·exact .inr (.inr (.inr e)))
 obtain⟨gvs,hJ,g1,g2⟩:=h.giv
 refine⟨hH,?_,h.low,hO,hR,⟨gvs,hJ.keeps k (fun e=>?_),g1,fun i a b=>⟨(g2 i a b).1,h.fds kS (g2 i a b).2.1,fun g hg e=>?_⟩⟩,h.lbb,h.mbb,Nat.le_trans h.size k.size⟩
 ·obtain⟨a,cap,hv,h3,h4,h5⟩:=h.files
  refine⟨a,cap,hv,h3,h4,fun h0=>?_⟩
  obtain⟨g,o,rfl,hg,hc⟩:=h5 h0
  have hn:¬(g=lb∨ov.ownBlock=some g∨rv.ownBlock=some g):=by
   have e2:=h.low g (by rw[hv];rfl)
   rintro (e|e|e)
   ·have:=h.lbb;omega
   ·have:=(Qpa h.opn e).2.1;omega
   ·have:=(Qpa h.ord e).2.1;omega
  exact⟨g,o,rfl,Nat.lt_of_lt_of_le hg k.size,fun i hi=>⟨(k.cell (p:=⟨g,o+i*2,none⟩) hg hn).trans (hc i hi).1,(k.cell (p:=⟨g,o+i*2+1,none⟩) hg hn).trans (hc i hi).2⟩⟩
 ·obtain⟨es,clock,hb,_⟩:=hJ
  rcases e with rfl|e|e
  ·have:=hb.symm.trans h.holds
   injection this with this;cases this
  ·obtain⟨_,_,cur,h3⟩:=Qpa h.opn e
   have:=hb.symm.trans h3
   injection this with this;cases this
  ·obtain⟨_,_,cur,h3⟩:=Qpa h.ord e
   have:=hb.symm.trans h3
   injection this with this;cases this
 ·rcases e with e|e
  ·exact(g2 i a b).2.2 g hg e
  ·cases e
section
variable{A:Nat→Prop}{w0 w:World}{lb mb base pb qb before file:Nat}{fv ov rv dv outv:Value}{F:List Qoa}{opn:List Nat}{ord:List ByteArray}{giv:QBb}{D:List Qwa}{out:List FdT}
theorem LdW.fin(h:LdW A lb mb base pb qb fv ov rv dv F (opn++[file]) (file:Int) D before w0 outv ord giv out w)(hA:∀g,A g→g<w0.heap.size)(hF:F.length≤8)(GM:base≤w0.heap.size) :
 ∃g oc rv',Qca w lb (ldC fv mb (.slice (some ⟨g,0,none⟩) (opn.length+1) oc) rv') 95∧opn.length+1≤oc∧oc≤maxLen∧opn.length+1≤8∧∀w6,Qaa (· = lb) w w6→Qca w6 lb (ldC fv mb (.slice (some ⟨g,0,none⟩) opn.length oc) rv') 95→
  ∃o,(Instr.mapUpdate 93 (.map (some mb)) (.int .i64 (file:Int)) outv).run Tryz.prog w6 = .ok () (setBlock w6 mb o)∧QOf A (setBlock w6 mb o) lb mb base fv (.slice (some ⟨g,0,none⟩) opn.length oc) rv' F opn ord (giv++[((file:Int),out)])∧
   Qsa (setBlock w6 mb o) base outv out∧Qca (setBlock w6 mb o) pb #[.int .i64 0,.int .i64 0,.int .i64 0] 27∧Qaa (LdS lb mb ov rv) w0 (setBlock w6 mb o)∧Q5c w0 ov (.slice (some ⟨g,0,none⟩) opn.length oc)∧Q5c w0 rv rv':=by
 obtain⟨ov',rv',hL,Kv,gN⟩:=h.ld
 have Ga:(opn++[file]).length=opn.length+1:=by simp
 have kT:=h.ok
 have lA:=kT.short
 obtain⟨g,oc,cur,rfl,db,qy,dd,vx,vy,s9⟩:∃g cap cur,ov' = .slice (some ⟨g,0,none⟩) (opn.length+1) cap∧base≤g∧w.heap[g]? = some (.cells cur 3 (0,0))∧opn.length+1≤cap∧cap≤maxLen∧cur.size=cap*1∧cur.toList.take ((opn.length+1)*1)=Qjc (opn++[file]):=by
  have h2:=hL.opn.2
  rw[Ga]at h2
  rcases h2 with⟨_,e⟩|⟨g,cap,cur,e1,e2,e3,e4,e5,e6,e7⟩
  ·omega
  ·exact⟨g,cap,cur,e1,e2,e3,e4,e5,e6,e7⟩
 refine⟨g,oc,rv',hL.holds,dd,vx,by omega,fun w6 k6 hH6=>?_⟩
 obtain⟨gvs,hJ,g1,g2⟩:=hL.giv
 obtain⟨ks,ek,vK,aj⟩:=kT.keys
 have oT:lb≠mb:=by
  rintro rfl
  obtain⟨es,clock,hb,_⟩:=hJ
  have:=hb.symm.trans hL.holds
  injection this with this;cases this
 have xC:Qhd w6 mb gvs:=hJ.keeps k6 (fun e=>oT e.symm)
 have kh:file<F.length:=aj file (by simp)
 have yh:∀p∈gvs,p.1≠(file:Int):=by
  intro p hp e
  obtain⟨i,hi,e2⟩:=List.getElem_of_mem hp
  have e3:=(g2 i (by omega) hi).1
  rw[e2,e]at e3
  have hm:(file:Int)∈giv.map (·.1):=by rw[e3];exact List.mem_map.2 ⟨_,List.getElem_mem _,rfl⟩
  rw[ek,List.mem_map]at hm
  obtain⟨k,hk,ek2⟩:=hm
  obtain rfl:k=file:=by omega
  exact(List.nodup_append.1 vK).2.2 k hk k (by simp) rfl
 obtain⟨o,ho,xD⟩:=xC.put (file:Int) outv (by omega) yh
 refine⟨o,ho,?_⟩
 have k7:Qaa (· = mb) w6 (setBlock w6 mb o):=(Qaa.refl (· = mb) w6).putJ o (.inr rfl)
 have k67:Qaa (fun i=>i=lb∨i=mb) w (setBlock w6 mb o):=(k6.mono (fun _ _ e=>.inl e)).trans k7 (fun _ _ e=>.inr e)
 have kS:Qaa (LdS lb mb (.slice (some ⟨g,0,none⟩) (opn.length+1) oc) rv') w (setBlock w6 mb o):=k67.mono (fun i _ e=>by
  rcases e with e|e
  ·exact .inl e
  ·exact .inr (.inl e))
 have xW:Q5c w0 ov (.slice (some ⟨g,0,none⟩) opn.length oc):=fun x hx=>Kv x hx
 have o8:∀{x:Nat} {cs:Array Value} {t:TypeId},Qca w x cs t→t≠95→¬(x=lb∨x=mb):=by
  rintro x cs t hc Hn (rfl|rfl)
  ·have:=hc.symm.trans hL.holds
   injection this with this;injection this with _ this;exact Hn this
  ·obtain⟨es,clock,hb,_⟩:=hJ
   have:=hb.symm.trans hc
   injection this with this;cases this
 have Hc:=hL.fds kS h.row
 have Hi:w.ownsRow base 3 1 (.slice (some ⟨g,0,none⟩) opn.length oc) opn.length (Qjc opn):=by
  refine⟨by simp[Qjc],.inr ⟨g,oc,cur,rfl,db,qy,by omega,vx,vy,?_⟩⟩
  have e1:Qjc opn=(Qjc (opn++[file])).take (opn.length*1):=by simp[Qjc]
  rw[e1,←s9,List.take_take,Nat.min_eq_left (by omega)]
 refine⟨⟨hH6.keeps k7 oT,?_,hL.low,Qba Hi k67 (fun x hx=>?_),Qba hL.ord k67 (fun x hx=>?_),⟨gvs++[((file:Int),outv)],xD,by simp[g1],fun i a b=>?_⟩,hL.lbb,hL.mbb,Nat.le_trans hL.size k67.size⟩,Hc,hL.pos kS h.pos,?_,xW,gN⟩
 ·obtain⟨a,cap,hv,h3,h4,h5⟩:=hL.files
  refine⟨a,cap,hv,h3,h4,fun h0=>?_⟩
  obtain⟨q,o,rfl,hq,hc⟩:=h5 h0
  have hn:¬(q=lb∨q=mb):=by
   have e2:=hL.low q (by rw[hv];rfl)
   have:=hL.lbb
   have:=hL.mbb
   omega
  exact⟨q,o,rfl,Nat.lt_of_lt_of_le hq k67.size,fun i hi=>⟨(k67.cell (p:=⟨q,o+i*2,none⟩) hq hn).trans (hc i hi).1,(k67.cell (p:=⟨q,o+i*2+1,none⟩) hq hn).trans (hc i hi).2⟩⟩
 ·obtain⟨_,_,c2,hb⟩:=Qpa Hi hx
  exact o8 hb (by decide)
 ·obtain⟨_,_,c2,hb⟩:=Qpa hL.ord hx
  exact o8 hb (by decide)
 ·by_cases hi:i<giv.length
  ·rw[List.getElem_append_left (by omega),List.getElem_append_left hi]
   exact⟨(g2 i hi (by omega)).1,hL.fds kS (g2 i hi (by omega)).2.1,fun x hx e=>(g2 i hi (by omega)).2.2 x hx (.inl e)⟩
  ·have e1:i=giv.length:=by simp at a;omega
   subst e1
   rw[List.getElem_append_right (by omega),List.getElem_append_right (by omega)]
   simp only[g1,Nat.sub_self,List.getElem_cons_zero]
   exact⟨trivial,Hc,fun x hx e=>by have e1:=h.new x hx;have e2:=hA x e;omega⟩
 ·refine h.keeps.trans k67 (fun i _ e=>?_)
  rcases e with e|e
  ·exact .inl e
  ·exact .inr (.inl e)
end
end Go.Proofs.YtofhcgbihonckaaGreat
namespace Go.Proofs.YtofhcgbihonckaaGreat
open Go.Lib (hid)
open Go.RowKit
theorem Qmm:(Tryz.prog.info? 72).map (fun i=>(i.zero,i.size,i.bytes))=some (some (.agg #[.int .i64 0,.string ⟨#[]⟩]),2,24):=by kernel_rfl
theorem QOg{P:Program}{w:World}{base:Nat}{e e' tx:TypeId}{size n:Nat}{v:Value}{xs:List Value}(hk:P.underlying tx=some (.slice e'))(h:w.ownsRow base e size v n xs)(gP:∀u∈xs,u.oneCell'=true):Src P size tx v n xs w:=by
 rcases id h.2 with⟨rfl,h0⟩|⟨g,cap,cur,rfl,_⟩
 ·subst h0
  have:xs=[]:=List.eq_nil_of_length_eq_zero (by simpa using h.1)
  subst this
  exact Src.ofNil w hk 0
 ·exact Src.ofSlice w hk _ _ _ _ h.1 (h.cells (g:=g) rfl) gP
theorem Qdi{w:World}{base:Nat}{e:TypeId}{size n cap:Nat}{xs:List Value}(h:w.ownsRow base e size (.slice none n cap) n xs):n=0∧cap=0∧xs=[]:=by
 rcases h.2 with⟨e1,h0⟩|⟨g,c,cur,e1,_⟩
 ·cases e1
  exact⟨rfl,rfl,List.eq_nil_of_length_eq_zero (by simpa using h.1)⟩
 ·cases e1
theorem Qne{w:World}{base B:Nat}{e:TypeId}{size:Nat}(hB:w.heap.size=B)(hb:base≤B):(w.alloc (.cells #[] e)).ownsRow base e size (.slice (some ⟨B,0,none⟩) 0 0) 0 []:=by
 have:=QYk (w:=w) (B:=B) (base:=base) (e:=e) (size:=size) (n:=0) (cs:=#[]) hB hb (by simp) (by omega)
 simpa using this
theorem Qel(base:Nat)(v:Value)(n:Nat)(xs:List Value)(w:World)(h:w.ownsRow base 34 7 v n xs)(gP:∀u∈xs,u.oneCell'=true)(hl:n≤10000) :
 Calls Tryz.prog 73 #[v] w fun e w'=>∃v',e = .returned v'∧w'.ownsRow w.heap.size 34 7 v' n xs∧Below w.heap.size w w':=by
 obtain⟨i0,hi,GE,GF,GA⟩:=info_parts QGk
 have q40:∀(w:World) (a:Option Addr) (n c:Nat),(binOp .eql 25 (.slice a n c) (.slice none 0 0)).run Tryz.prog w = .ok (.bool a.isNone) w:=fun w a n c=>Lib.run_eql_slice_nil w _ _ a n c 0 0 Tryz.underlying25
 obtain⟨a,cap,rfl⟩:=Qia h
 cases a with
 | none=>
  obtain⟨rfl,rfl,rfl⟩:=Qdi h
  clear h gP
  go_enter Tryz.func73,Tryz.ntmps73
  go_wp2_with fail
  go_ret
  exact⟨_,rfl,World.ownsRow_nil _ _ _ _,Below.refl _ _⟩
 | some ad=>
  have gR:Below w.heap.size w (w.alloc (.cells #[] 34)):=(Below.refl _ _).alloc (Nat.le_refl _) _
  have HS:=hid (QOg (P:=Tryz.prog) Tryz.underlying25 (Qba h (Qaa.of_fresh gR (fun _=>False)) (fun _ _ e=>e)) gP)
  have HR:=hid (Qne (w:=w) (B:=w.heap.size) (base:=w.heap.size) (e:=34) (size:=7) rfl (Nat.le_refl _))
  clear h gP
  go_enter Tryz.func73,Tryz.ntmps73
  go_wp2_with (at_builtin;refine QHa _ rfl _ _ 25 25 rfl w.heap.size 34 i0 (.agg #[.int .i64 0,.string ⟨#[]⟩,.string ⟨#[]⟩,.slice none 0 0,.int .i64 0,.int .i64 0,.int .i64 0]) 7 88 Tryz.underlying25 hi GE GF GA rfl (.slice (some ⟨w.heap.size,0,none⟩) 0 0) 0 [] rfl (by exact HR.out) _ rfl n xs (by exact HS.out) ?c1 ?c2 ?c3 ?_)
  case c1=>unfold maxLen;omega
  case c2=>omega
  case c3=>simp
  intro v' w5 Hi Hb _
  have Kx:=hid (gR.grown Hb (by simp) (fun q hq=>by have:w.heap.size=q:=Option.some.inj hq;omega))
  have HO:=hid Hi
  clear Hi Hb gR
  go_wp2_with fail
  go_ret
  exact⟨_,rfl,by simpa using HO.out,Kx.out⟩
theorem QSj(base:Nat)(v:Value)(n:Nat)(xs:List Value)(w:World)(h:w.ownsRow base 75 3 v n xs)(gP:∀u∈xs,u.oneCell'=true)(hl:n≤10000) :
 Calls Tryz.prog 74 #[v] w fun e w'=>∃v',e = .returned v'∧w'.ownsRow w.heap.size 75 3 v' n xs∧Below w.heap.size w w':=by
 obtain⟨i0,hi,GE,GF,GA⟩:=info_parts QZf
 have q40:∀(w:World) (a:Option Addr) (n c:Nat),(binOp .eql 32 (.slice a n c) (.slice none 0 0)).run Tryz.prog w = .ok (.bool a.isNone) w:=fun w a n c=>Lib.run_eql_slice_nil w _ _ a n c 0 0 Tryz.underlying32
 obtain⟨a,cap,rfl⟩:=Qia h
 cases a with
 | none=>
  obtain⟨rfl,rfl,rfl⟩:=Qdi h
  clear h gP
  go_enter Tryz.func74,Tryz.ntmps74
  go_wp2_with fail
  go_ret
  exact⟨_,rfl,World.ownsRow_nil _ _ _ _,Below.refl _ _⟩
 | some ad=>
  have gR:Below w.heap.size w (w.alloc (.cells #[] 75)):=(Below.refl _ _).alloc (Nat.le_refl _) _
  have HS:=hid (QOg (P:=Tryz.prog) Tryz.underlying32 (Qba h (Qaa.of_fresh gR (fun _=>False)) (fun _ _ e=>e)) gP)
  have HR:=hid (Qne (w:=w) (B:=w.heap.size) (base:=w.heap.size) (e:=75) (size:=3) rfl (Nat.le_refl _))
  clear h gP
  go_enter Tryz.func74,Tryz.ntmps74
  go_wp2_with (at_builtin;refine QHa _ rfl _ _ 32 32 rfl w.heap.size 75 i0 (.agg #[.int .i64 0,.slice none 0 0,.string ⟨#[]⟩]) 3 48 Tryz.underlying32 hi GE GF GA rfl (.slice (some ⟨w.heap.size,0,none⟩) 0 0) 0 [] rfl (by exact HR.out) _ rfl n xs (by exact HS.out) ?c1 ?c2 ?c3 ?_)
  case c1=>unfold maxLen;omega
  case c2=>omega
  case c3=>simp
  intro v' w5 Hi Hb _
  have Kx:=hid (gR.grown Hb (by simp) (fun q hq=>by have:w.heap.size=q:=Option.some.inj hq;omega))
  have HO:=hid Hi
  clear Hi Hb gR
  go_wp2_with fail
  go_ret
  exact⟨_,rfl,by simpa using HO.out,Kx.out⟩
theorem Qwj(base:Nat)(v:Value)(n:Nat)(xs:List Value)(w:World)(h:w.ownsRow base 72 2 v n xs)(gP:∀u∈xs,u.oneCell'=true)(hl:n≤10000) :
 Calls Tryz.prog 75 #[v] w fun e w'=>∃v',e = .returned v'∧w'.ownsRow w.heap.size 72 2 v' n xs∧Below w.heap.size w w':=by
 obtain⟨i0,hi,GE,GF,GA⟩:=info_parts Qmm
 have q40:∀(w:World) (a:Option Addr) (n c:Nat),(binOp .eql 73 (.slice a n c) (.slice none 0 0)).run Tryz.prog w = .ok (.bool a.isNone) w:=fun w a n c=>Lib.run_eql_slice_nil w _ _ a n c 0 0 Tryz.underlying73
 obtain⟨a,cap,rfl⟩:=Qia h
 cases a with
 | none=>
  obtain⟨rfl,rfl,rfl⟩:=Qdi h
  clear h gP
  go_enter Tryz.func75,Tryz.ntmps75
  go_wp2_with fail
  go_ret
  exact⟨_,rfl,World.ownsRow_nil _ _ _ _,Below.refl _ _⟩
 | some ad=>
  have gR:Below w.heap.size w (w.alloc (.cells #[] 72)):=(Below.refl _ _).alloc (Nat.le_refl _) _
  have HS:=hid (QOg (P:=Tryz.prog) Tryz.underlying73 (Qba h (Qaa.of_fresh gR (fun _=>False)) (fun _ _ e=>e)) gP)
  have HR:=hid (Qne (w:=w) (B:=w.heap.size) (base:=w.heap.size) (e:=72) (size:=2) rfl (Nat.le_refl _))
  clear h gP
  go_enter Tryz.func75,Tryz.ntmps75
  go_wp2_with (at_builtin;refine QHa _ rfl _ _ 73 73 rfl w.heap.size 72 i0 (.agg #[.int .i64 0,.string ⟨#[]⟩]) 2 24 Tryz.underlying73 hi GE GF GA rfl (.slice (some ⟨w.heap.size,0,none⟩) 0 0) 0 [] rfl (by exact HR.out) _ rfl n xs (by exact HS.out) ?c1 ?c2 ?c3 ?_)
  case c1=>unfold maxLen;omega
  case c2=>omega
  case c3=>simp
  intro v' w5 Hi Hb _
  have Kx:=hid (gR.grown Hb (by simp) (fun q hq=>by have:w.heap.size=q:=Option.some.inj hq;omega))
  have HO:=hid Hi
  clear Hi Hb gR
  go_wp2_with fail
  go_ret
  exact⟨_,rfl,by simpa using HO.out,Kx.out⟩
section
variable(c:Nat)(F F':List Qoa)
variable{F F'}
end
theorem QSe(F:List Qoa):Qmc F [] [] []:=⟨⟨[],rfl,by simp,by simp⟩,by simp,rfl⟩
section
variable(L:List Tok)
def OkD(d:Qwa):Prop:=d.parts.length≤6002∧∀p∈d.parts,p.cells.length≤6002
theorem OkD.nil{d:Qwa}(h:d.parts=[]):OkD d:=⟨by rw[h];simp,fun p hp=>by rw[h]at hp;cases hp⟩
theorem Qlf:∀(n i:Nat) (acc:List QJb) (j:Nat) (cs:List QJb),Q1b L n i acc = .ok (j,cs)→cs.length≤acc.length+n
 | 0,i,acc,j,cs,h=>by cases h
 | n+1,i,acc,j,cs,h=>by
  rw[Q1b]at h
  split at h
  ·cases h;omega
  ·split at h
   ·split at h
    ·have:=Qlf n _ _ _ _ h;simp at this;omega
    ·cases h
   ·split at h
    ·cases h
    ·have:=Qlf n _ _ _ _ h;simp at this;omega
theorem QHm{i j:Nat}{p:QRa}(h:Qsb L i = .ok (j,p)):p.cells.length≤Qgb L:=by
 unfold Qsb at h
 split at h
 ·cases h;simp
 ·split at h
  ·split at h
   ·cases h;simp
   ·cases h
  ·split at h
   ·split at h
    ·rename_i hc;cases h
     have:=Qlf L _ _ _ _ _ hc
     simpa using this
    ·cases h
   ·split at h
    ·split at h
     ·cases h;simp
     ·cases h
    ·cases h
theorem Qqh:∀(n:Nat) (sep:List UInt8) (i:Nat) (acc:List QRa) (j:Nat) (ps:List QRa),Qvb L n sep i acc = .ok (j,ps)→(∀p∈acc,p.cells.length≤Qgb L)→ps.length≤acc.length+n∧∀p∈ps,p.cells.length≤Qgb L
 | 0,sep,i,acc,j,ps,h,_=>by cases h
 | n+1,sep,i,acc,j,ps,h,ha=>by
  rw[Qvb]at h
  split at h
  ·cases h1:Qsb L (i+1)with
   | error e=>rw[h1]at h;cases h
   | ok q=>
    rw[h1]at h
    obtain⟨m,p⟩:=q
    have h2:=QHm L h1
    obtain⟨h3,h4⟩:=Qqh n _ _ _ _ _ h (fun x hx=>by
     rcases List.mem_append.1 hx with hx|hx
     ·exact ha x hx
     ·simp only[List.mem_singleton]at hx;subst hx;exact h2)
    exact⟨by simp at h3;omega,h4⟩
  ·cases h;exact⟨by omega,ha⟩
theorem QPe{kind what:Int}{before:List UInt8}{right:List UInt8→Bool}{i j:Nat}{ds:List Qwa}(h:QVd L kind what before right i = .ok (j,ds)):∃d,ds=[d]∧d.parts=[]:=by
 unfold QVd at h
 cases h1:Qja L what right (i+1)with
 | error e=>rw[h1]at h;cases h
 | ok m=>
  rw[h1]at h
  simp only at h
  cases h2:Qwb L [59] m with
  | error e=>rw[h2]at h;cases h
  | ok q=>
   rw[h2]at h
   cases h
   exact⟨_,rfl,rfl⟩
variable(hL:L.length≤6001)
include hL
theorem QNd:∀(n:Nat) (md:Md) (i j:Nat) (ds:List Qwa),Qxb L n md i = .ok (j,ds)→(match md with
 | .body d _=>OkD d
 | .mems _ acc=>∀d∈acc,OkD d
 | _=>True)→∀d∈ds,OkD d
 | 0,md,i,j,ds,h,_=>by cases md <;> cases h
 | n+1,.body d dp,i,j,ds,h,hd=>by
  rw[Qxb]at h
  split at h
  ·split at h
   ·cases h
   ·exact QNd n (.mems dp [d]) _ _ _ h (fun x hx=>by simp only[List.mem_singleton]at hx;subst hx;exact hd)
  ·cases h
 | n+1,.mems dp acc,i,j,ds,h,hd=>by
  rw[Qxb]at h
  split at h
  ·cases h
   intro x hx
   rcases List.mem_append.1 hx with hx|hx
   ·exact hd x hx
   ·simp only[List.mem_singleton]at hx;subst hx;exact .nil rfl
  ·cases h1:Qxb L n (.member dp) i with
   | error e=>rw[h1]at h;cases h
   | ok q=>
    rw[h1]at h
    obtain⟨m,xs⟩:=q
    have h2:=QNd n (.member dp) _ _ _ h1 trivial
    refine QNd n (.mems dp (acc++xs)) _ _ _ h (fun x hx=>?_)
    rcases List.mem_append.1 hx with hx|hx
    ·exact hd x hx
    ·exact h2 x hx
 | n+1,.member dp,i,j,ds,h,_=>by
  rw[Qxb]at h
  split at h
  ·cases h1:Qja L 5 Qra i with
   | error e=>rw[h1]at h;cases h
   | ok a=>
    rw[h1]at h
    simp only at h
    cases h2:Qja L 1 Q1a a with
    | error e=>rw[h2]at h;cases h
    | ok b=>
     rw[h2]at h
     simp only at h
     cases h3:Qxb L n (.body ⟨1,txN L i,txN L a,[],(tkN L i).line,(tkN L i).col⟩ (dp+1)) b with
     | error e=>rw[h3]at h;cases h
     | ok q=>
      rw[h3]at h
      obtain⟨m,xs⟩:=q
      simp only at h
      have h6:=QNd n _ _ _ _ h3 (.nil rfl)
      cases h4:Qwb L [59] m with
      | error e=>rw[h4]at h;cases h
      | ok q=>rw[h4]at h;cases h;exact h6
  ·split at h
   ·cases h1:Qxb L n (.named dp) i with
    | error e=>rw[h1]at h;cases h
    | ok q=>
     rw[h1]at h
     obtain⟨m,xs⟩:=q
     simp only at h
     have h6:=QNd n _ _ _ _ h1 trivial
     cases h4:Qwb L [59] m with
     | error e=>rw[h4]at h;cases h
     | ok q=>rw[h4]at h;cases h;exact h6
   ·split at h
    ·obtain⟨d,rfl,a3⟩:=QPe L h
     intro x hx
     simp only[List.mem_singleton]at hx;subst hx;exact .nil a3
    ·split at h
     ·obtain⟨d,rfl,a3⟩:=QPe L h
      intro x hx
      simp only[List.mem_singleton]at hx;subst hx;exact .nil a3
     ·cases h
 | n+1,.named dp,i,j,ds,h,_=>by
  rw[Qxb]at h
  split at h
  ·split at h
   ·exact QNd n _ _ _ _ h (.nil rfl)
   ·cases h
  ·split at h
   ·cases h1:Qvb L (Qgb L) [61] (i+1) []with
    | error e=>rw[h1]at h;cases h
    | ok q=>
     rw[h1]at h
     obtain⟨m,ps⟩:=q
     cases h
     intro x hx
     simp only[List.mem_singleton]at hx;subst hx
     have h5:=Qqh L _ _ _ _ _ _ h1 (fun x hx=>by cases hx)
     have hf:Qgb L≤6002:=by unfold Qgb;omega
     exact⟨by have:=h5.1;simp at this;show ps.length≤6002;omega,fun p hp=>Nat.le_trans (h5.2 p hp) hf⟩
   ·cases h
theorem QKh{d:Qwa}{i j:Nat}{ds:List Qwa}(h:Q6l L d i = .ok (j,ds))(hd:OkD d):∀x∈ds,OkD x:=by
 unfold Q6l at h
 cases h1:Qxb L (QEc L) (.body d 0) i with
 | error e=>rw[h1]at h;cases h
 | ok q=>
  rw[h1]at h
  obtain⟨m,xs⟩:=q
  simp only at h
  have h6:=QNd L hL _ _ _ _ _ h1 hd
  cases h4:Qwb L [59] m with
  | error e=>rw[h4]at h;cases h
  | ok q=>rw[h4]at h;cases h;exact h6
theorem Qnq{i j:Nat}{ds:List Qwa}(h:Qrj L i = .ok (j,ds)):∀d∈ds,OkD d:=by
 unfold Qrj at h
 split at h
 ·cases h1:Qja L 5 Qra i with
  | error e=>rw[h1]at h;cases h
  | ok a=>
   rw[h1]at h
   simp only at h
   cases h2:Qwb L [47] a with
   | error e=>rw[h2]at h;cases h
   | ok b=>rw[h2]at h;exact QKh L hL h (.nil rfl)
 ·split at h
  ·exact QKh L hL h (.nil rfl)
  ·split at h
   ·cases h1:Qja L 6 Qra i with
    | error e=>rw[h1]at h;cases h
    | ok a=>rw[h1]at h;exact QKh L hL h (.nil rfl)
   ·split at h
    ·obtain⟨d,rfl,a3⟩:=QPe L h
     intro x hx
     simp only[List.mem_singleton]at hx;subst hx;exact .nil a3
    ·split at h
     ·obtain⟨d,rfl,a3⟩:=QPe L h
      intro x hx
      simp only[List.mem_singleton]at hx;subst hx;exact .nil a3
     ·cases h
theorem Q9k:∀(n i:Nat) (acc D:List Qwa),QDf L n i acc = .ok D→(∀d∈acc,OkD d)→∀d∈D,OkD d
 | 0,i,acc,D,h,_=>by cases h
 | n+1,i,acc,D,h,ha=>by
  rw[QDf]at h
  split at h
  ·cases h;exact ha
  ·cases h1:Qrj L i with
   | error e=>rw[h1]at h;cases h
   | ok q=>
    rw[h1]at h
    obtain⟨j,ds⟩:=q
    refine Q9k n _ _ _ h (fun d hd=>?_)
    rcases List.mem_append.1 hd with hd|hd
    ·exact ha d hd
    ·exact Qnq L hL h1 d hd
end
theorem Qjn(l:List UInt8)(file:Int):∀d∈(Qoe l file).1,OkD d:=by
 intro d hd
 unfold Qoe at hd
 split at hd
 ·cases hd
 ·split at hd
  ·rename_i hD;exact Q9k _ (Qke l file).2.1 _ _ _ _ hD (fun d hd=>by cases hd) d hd
  ·cases hd
section
variable(P:FdT→Prop){F:List Qoa}
theorem Qee{opn:List Nat}{go:List ByteArray→QBb→Nat→Nat→Lr}(MI:∀ord giv k b ord' giv' o,go ord giv k b = .ok (ord',giv',o)→k<F.length→(∀p∈giv,∀x∈p.2,P x)→(∀p∈giv',∀x∈p.2,P x)∧∀x∈o,P x)(before:Nat):∀(r:List FdT) (ord:List ByteArray) (giv:QBb) (out:List FdT) (ord':List ByteArray) (giv':QBb) (out':List FdT),
 Qza go F opn before r ord giv out = .ok (ord',giv',out')→(∀x∈r,P x)→(∀p∈giv,∀x∈p.2,P x)→(∀x∈out,P x)→(∀p∈giv',∀x∈p.2,P x)∧∀x∈out',P x
 | [],ord,giv,out,ord',giv',out',h,_,hg,ho=>by
  simp only[Qza,Except.ok.injEq,Prod.mk.injEq]at h
  obtain⟨rfl,rfl,rfl⟩:=h
  exact⟨hg,ho⟩
 | d::r,ord,giv,out,ord',giv',out',h,hr,hg,ho=>by
  have hd:=hr d List.mem_cons_self
  have hr':=fun x hx=>hr x (List.mem_cons_of_mem _ hx)
  have M5:∀m:List FdT,(∀x∈m,P x)→∀x∈out++m,P x:=fun m hm x hx=>by
   rcases List.mem_append.1 hx with hx|hx
   ·exact ho x hx
   ·exact hm x hx
  by_cases hk:d.2.kind=6
  ·cases hf:Q2b F d.2.name with
   | none=>rw[Q3d hk hf]at h;cases h
   | some k=>
    cases hop:opn.contains k with
    | true=>rw[QYc hk hf hop]at h;cases h
    | false=>
     cases hv:Qkd giv k with
     | some l=>
      rw[Qsd hk hf hop hv]at h
      split at h
      ·cases h
      ·obtain⟨i,hi,e⟩:=QHi hv
       exact Qee MI before r _ _ _ _ _ _ h hr' hg (M5 l (fun x hx=>hg _ (List.getElem_mem hi) x (by rw[e];exact hx)))
     | none=>
      rw[Q0e hk hf hop hv]at h
      cases hgo2:go ord giv k (before+out.length)with
      | error e=>rw[hgo2]at h;cases h
      | ok x=>
       obtain⟨o1,g1,l⟩:=x
       rw[hgo2]at h
       simp only at h
       obtain⟨q1,q2⟩:=MI _ _ _ _ _ _ _ hgo2 (QFb hf) hg
       split at h
       ·cases h
       ·exact Qee MI before r _ _ _ _ _ _ h hr' q1 (M5 l q2)
  ·rw[QZe hk]at h
   split at h
   ·cases h
   ·exact Qee MI before r _ _ _ _ _ _ h hr' hg (M5 [d] (fun x hx=>by simp only[List.mem_singleton]at hx;subst hx;exact hd))
theorem Qqm(hs:∀k<F.length,∀d∈(Qoe (F.getD k ⟨⟨#[]⟩,⟨#[]⟩⟩).text.data.toList k).1,P ((k:Int),d)):∀(f:Nat) (opn:List Nat) (ord:List ByteArray) (giv:QBb) (k b:Nat) (ord':List ByteArray) (giv':QBb) (o:List FdT),ldT F f opn ord giv k b = .ok (ord',giv',o)→k<F.length→(∀p∈giv,∀x∈p.2,P x)→(∀p∈giv',∀x∈p.2,P x)∧∀x∈o,P x
 | 0,opn,ord,giv,k,b,ord',giv',o,h,_,_=>by simp only[ldT]at h;cases h
 | f+1,opn,ord,giv,k,b,ord',giv',o,h,hk,hg=>by
  simp only[ldT]at h
  split at h
  ·cases h
  ·cases hl:Qza (ldT F f (opn++[k])) F (opn++[k]) b (QUd k (Qoe (F.getD k ⟨⟨#[]⟩,⟨#[]⟩⟩).text.data.toList k).1) (ord++[(F.getD k ⟨⟨#[]⟩,⟨#[]⟩⟩).name]) giv []with
   | error e=>rw[hl]at h;cases h
   | ok x=>
    obtain⟨o1,g1,l⟩:=x
    rw[hl]at h
    simp only[Except.ok.injEq,Prod.mk.injEq]at h
    obtain⟨rfl,rfl,rfl⟩:=h
    obtain⟨q1,q2⟩:=Qee P (Qqm hs f (opn++[k])) b _ _ _ _ _ _ _ hl (fun x hx=>by
     obtain⟨d,hd,rfl⟩:=List.mem_map.1 hx
     exact hs k hk d hd) hg (fun x hx=>by cases hx)
    refine⟨fun p hp=>?_,q2⟩
    rcases List.mem_append.1 hp with hp|hp
    ·exact q1 p hp
    ·simp only[List.mem_singleton]at hp;subst hp;exact q2
end
theorem QRn{F:List Qoa}{m:ByteArray}(P:FdT→Prop)(hs:∀k<F.length,∀d∈(Qoe (F.getD k ⟨⟨#[]⟩,⟨#[]⟩⟩).text.data.toList k).1,P ((k:Int),d)){ord:List ByteArray}{giv:QBb}{out:List FdT}(h:QSb F m = .ok (ord,giv,out)):∀x∈out,P x:=by
 unfold QSb at h
 split at h
 ·cases h
 ·split at h
  ·cases h
  ·split at h
   ·cases h
   ·rename_i k hk
    exact(Qqm P hs _ _ _ _ _ _ _ _ _ h (QFb hk) (fun p hp=>by cases hp)).2
theorem QLk{F:List Qoa}{m:ByteArray}{ord:List ByteArray}{giv:QBb}{out:List FdT}(h:QSb F m = .ok (ord,giv,out)):out.length≤6000∧∀x∈out,OkD x.2:=by
 refine⟨?_,QRn (fun x=>OkD x.2) (fun k _ d hd=>Qjn _ _ d hd) h⟩
 unfold QSb at h
 split at h
 ·cases h
 ·split at h
  ·cases h
  ·split at h
   ·cases h
   ·rename_i k hk
    have:=(Qkh F _ [] [] [] k 0 _ _ _ h (QSe F) (QFb hk) (by simp) rfl (by omega)).2
    omega
theorem Qck{w:World}{base:Nat}{e:TypeId}{size g n cap:Nat}{xs:List Value}(h:w.ownsRow base e size (.slice (some ⟨g,0,none⟩) n cap) n xs)(k:Nat)(hk:k<n*size)(x:Value):(w.setCell ⟨g,k,none⟩ x).ownsRow base e size (.slice (some ⟨g,0,none⟩) n cap) n (xs.set k x):=by
 refine⟨by rw[List.length_set];exact h.1,?_⟩
 rcases h.2 with⟨e1,_⟩|⟨g',cap',cur,e1,hb,hh,h1,h2,h3,h4⟩
 ·cases e1
 ·cases e1
  refine .inr ⟨g,cap,cur.setIfInBounds k x,rfl,hb,heap_setCell_same w g k cur e x hh,h1,h2,by simpa using h3,?_⟩
  rw[←h4]
  simp[List.take_set]
theorem Qog:∀(l:List FdT) (vs:List Value) (i:Nat) (v:Value),vs.length=l.length→(QEa l vs).set (i*7+3) v=QEa l (vs.set i v)
 | [],[],i,v,_=>by simp[QEa]
 | x::xs,u::us,0,v,_=>by simp[QEa]
 | x::xs,u::us,i+1,v,h=>by
  rw[show(i+1)*7+3=(i*7+3)+7 from by omega]
  simp only[QEa,List.set_cons_succ,List.cons.injEq,true_and]
  exact Qog xs us i v (by simpa using h)
theorem Q4e:∀(l:List QRa) (vs:List Value) (i:Nat) (v:Value),vs.length=l.length→(QDa l vs).set (i*3+1) v=QDa l (vs.set i v)
 | [],[],i,v,_=>by simp[QDa]
 | x::xs,u::us,0,v,_=>by simp[QDa]
 | x::xs,u::us,i+1,v,h=>by
  rw[show(i+1)*3+1=(i*3+1)+3 from by omega]
  simp only[QDa,List.set_cons_succ,List.cons.injEq,true_and]
  exact Q4e xs us i v (by simpa using h)
theorem Q3e:∀(l:List QRa) (vs:List Value),(∀u∈vs,u.oneCell'=true)→∀u∈QDa l vs,u.oneCell'=true
 | [],_,_,u,hu=>by simp[QDa]at hu
 | x::xs,[],_,u,hu=>by simp[QDa]at hu
 | x::xs,v::vs,h,u,hu=>by
  simp only[QDa,List.mem_cons]at hu
  rcases hu with rfl|rfl|rfl|hu
  ·rfl
  ·exact h _ List.mem_cons_self
  ·rfl
  ·exact Q3e xs vs (fun u hu=>h u (List.mem_cons_of_mem _ hu)) u hu
theorem QHh(cs:List QJb):∀u∈QCb cs,u.oneCell'=true:=by
 intro u hu
 unfold QCb at hu
 obtain⟨c,_,hc⟩:=List.mem_flatMap.1 hu
 simp only[List.mem_cons,List.not_mem_nil,or_false]at hc
 rcases hc with rfl|rfl <;> rfl
theorem Qkf{w w':World}{g o:Nat}{x:Option Value}(h:w.cell? ⟨g,o,none⟩=x)(hg:g<w.heap.size)(k:Below w.heap.size w w'):w'.cell? ⟨g,o,none⟩=x:=(k.cell (p:=⟨g,o,none⟩) hg).trans h
structure Qfr(w:World)(base g cap:Nat)(out:List FdT)(vs us:List Value)(i:Nat)(wr:World):Prop where
 len:us.length=out.length
 row:wr.ownsRow w.heap.size 34 7 (.slice (some ⟨g,0,none⟩) out.length cap) out.length (QEa out us)
 done:∀j (h:j<out.length) (h2:j<us.length),j<i→Qha wr w.heap.size us[j] out[j].2.parts
 left:∀j,i≤j→us[j]? = vs[j]?
 below:Below w.heap.size w wr
structure QNo(w:World)(base g cap:Nat)(out:List FdT)(vs us:List Value)(i:Nat)(ps:List QRa)(pv:Value)(cs ds:List Value)(k:Nat)(wr:World):Prop where
 len:us.length=out.length
 row:wr.ownsRow w.heap.size 34 7 (.slice (some ⟨g,0,none⟩) out.length cap) out.length (QEa out us)
 here:us[i]? = some pv
 part:wr.ownsRow w.heap.size 75 3 pv ps.length (QDa ps ds)
 plen:ds.length=ps.length
 pdone:∀j (h:j<ps.length) (h2:j<ds.length),j<k→Qfa wr w.heap.size ds[j] ps[j].cells
 pleft:∀j,k≤j→ds[j]? = cs[j]?
 done:∀j (h:j<out.length) (h2:j<us.length),j<i→Qha wr w.heap.size us[j] out[j].2.parts∧∀b,us[j].ownBlock=some b→pv.ownBlock≠some b
 left:∀j,i<j→us[j]? = vs[j]?
 below:Below w.heap.size w wr
theorem Qha.keep3{w w':World}{base:Nat}{v:Value}{ps:List QRa}{S:Nat→Prop}(h:Qha w base v ps)(k:Qaa S w w')(hs:∀b,v.ownBlock=some b→¬S b)(ha:∀b,S b→∃cs t,Qca w b cs t∧t≠72):Qha w' base v ps:=by
 obtain⟨us,u1,u2,u3⟩:=h
 exact⟨us,u1,Qba u2 k hs,fun i hi Kc=>Qba (u3 i hi Kc) k (fun b hb hS=>by
  obtain⟨cs,t,hc,Hn⟩:=ha b hS
  obtain⟨_,_,cur,kO⟩:=Qpa (u3 i hi Kc) hb
  have:=kO.symm.trans hc
  injection this with this;injection this with _ this;exact Hn this.symm)⟩
section
variable{w wr:World}{base g cap i k:Nat}{out:List FdT}{vs us:List Value}{ps:List QRa}{pv:Value}{cs ds:List Value}
theorem Qfr.open1(h:Qfr w base g cap out vs us i wr)(hi:i<out.length){w2:World}(hb:Below wr.heap.size wr w2)(hp:w2.ownsRow wr.heap.size 75 3 pv ps.length (QDa ps cs))(hc:cs.length=ps.length) :
 QNo w base g cap out vs (us.set i pv) i ps pv cs cs 0 (w2.setCell ⟨g,i*7+3,none⟩ pv):=by
 have Hv:=Qba h.row (Qaa.of_fresh hb (fun _=>False)) (fun _ _ e=>e)
 have iJ:=h.below.size
 obtain⟨vy,db⟩:=Hv.lt g rfl
 obtain⟨_,_,cur,dd⟩:=Qpa Hv (b:=g) rfl
 have hl:=h.len
 have hk:Qaa (· = g) w2 (w2.setCell ⟨g,i*7+3,none⟩ pv):=(Qaa.refl (· = g) w2).setCell (p:=⟨g,i*7+3,none⟩) (.inr rfl) pv
 refine⟨by rw[List.length_set];exact hl,?_,by rw[List.getElem?_set_self (by omega)],QMc (Qba hp hk (fun b Ho e=>?_)) iJ,hc,fun j _ _ e=>absurd e (by omega),fun j _=>rfl,fun j hj Gr hji=>?_,fun j hj=>?_,?_⟩
 ·rw[←Qog out us i pv hl]
  exact Qck Hv _ (by omega) pv
 ·subst e
  obtain⟨_,_,c2,kO⟩:=Qpa hp Ho
  have:=kO.symm.trans dd
  injection this with this;injection this with _ this;exact absurd this (by decide)
 ·rw[List.length_set]at Gr
  have e1:(us.set i pv)[j]'(by rw[List.length_set];exact Gr)=us[j]:=by rw[List.getElem_set_ne (by omega)]
  rw[e1]
  have hd:=h.done j hj Gr hji
  refine⟨(hd.keep2 (Qaa.of_fresh hb (fun _=>False)) (fun _ _ e=>e.elim)).keep3 hk (fun b Ho e=>?_) (fun b e=>by subst e;exact⟨_,_,dd,by decide⟩),fun b Ho e=>?_⟩
  ·subst e
   obtain⟨_,_,hr,_⟩:=hd
   obtain⟨_,_,c2,kO⟩:=Qpa hr Ho
   have:=(hb.block _ (lt_of_block kO)).trans kO
   have:=this.symm.trans dd
   injection this with this;injection this with _ this;exact absurd this (by decide)
  ·obtain⟨_,_,hr,_⟩:=hd
   have h1:=(Qpa hr Ho).1
   have h2:=(Qpa hp e).2.1
   omega
 ·rw[List.getElem?_set_ne (by omega)];exact h.left j (by omega)
 ·exact(h.below.trans (hb.mono iJ)).setCell (p:=⟨g,i*7+3,none⟩) (by have:=(h.row.lt g rfl).1;omega) pv
theorem QNo.step{gp pc:Nat}(h:QNo w base g cap out vs us i ps (.slice (some ⟨gp,0,none⟩) ps.length pc) cs ds k wr)(hk:k<ps.length){w2:World}{cv:Value}(hb:Below wr.heap.size wr w2)(hp:Qfa w2 wr.heap.size cv ps[k].cells) :
 QNo w base g cap out vs us i ps (.slice (some ⟨gp,0,none⟩) ps.length pc) cs (ds.set k cv) (k+1) (w2.setCell ⟨gp,k*3+1,none⟩ cv):=by
 have kf:=Qaa.of_fresh hb (fun _=>False)
 have Hv:=Qba h.row kf (fun _ _ e=>e)
 have bP:=Qba h.part kf (fun _ _ e=>e)
 have iJ:=h.below.size
 have KL:=h.plen
 obtain⟨_,_,cur,dd⟩:=Qpa bP (b:=gp) rfl
 have Ht:Qaa (· = gp) w2 (w2.setCell ⟨gp,k*3+1,none⟩ cv):=(Qaa.refl (· = gp) w2).setCell (p:=⟨gp,k*3+1,none⟩) (.inr rfl) cv
 have G8:∀{u:Value} {c:List QJb} {b0:Nat},Qfa w2 b0 u c→Qfa (w2.setCell ⟨gp,k*3+1,none⟩ cv) b0 u c:=by
  intro u c b0 hu
  refine Qba hu Ht (fun b Ho e=>?_)
  subst e
  obtain⟨_,_,c2,kO⟩:=Qpa hu Ho
  have:=kO.symm.trans dd
  injection this with this;injection this with _ this;exact absurd this (by decide)
 refine⟨h.len,Qba Hv Ht (fun b Ho e=>?_),h.here,?_,by rw[List.length_set];exact KL,fun j hj Gr oM=>?_,fun j hj=>?_,fun j hj Gr hji=>?_,h.left,?_⟩
 ·subst e
  obtain⟨_,_,c2,kO⟩:=Qpa Hv Ho
  have:=kO.symm.trans dd
  injection this with this;injection this with _ this;exact absurd this (by decide)
 ·rw[←Q4e ps ds k cv KL]
  exact Qck bP _ (by omega) cv
 ·have vD:j<ds.length:=by simpa using Gr
  by_cases e:j=k
  ·subst e
   have e1:(ds.set j cv)[j]'Gr=cv:=by rw[List.getElem_set_self]
   rw[e1]
   exact(G8 hp).lower iJ
  ·have e1:(ds.set k cv)[j]'Gr=ds[j]:=by rw[List.getElem_set_ne (by omega)]
   rw[e1]
   exact G8 (Qba (h.pdone j hj vD (by omega)) kf (fun _ _ e=>e))
 ·rw[List.getElem?_set_ne (by omega)];exact h.pleft j (by omega)
 ·obtain⟨hd,Hn⟩:=h.done j hj Gr hji
  exact⟨(hd.keep2 kf (fun _ _ e=>e.elim)).keep3 Ht (fun b Ho e=>by subst e;exact Hn _ Ho rfl) (fun b e=>by subst e;exact⟨_,_,dd,by decide⟩),Hn⟩
 ·exact(h.below.trans (hb.mono iJ)).setCell (p:=⟨gp,k*3+1,none⟩) (by have:=(h.part.lt gp rfl).1;omega) cv
theorem QNo.close1(h:QNo w base g cap out vs us i ps pv cs ds ps.length wr)(hi:i<out.length)(he:out[i].2.parts=ps):Qfr w base g cap out vs us (i+1) wr:=by
 refine⟨h.len,h.row,fun j hj Gr hji=>?_,fun j hj=>h.left j (by omega),h.below⟩
 by_cases e:j=i
 ·subst e
  have e1:us[j]=pv:=by have:=h.here;rw[List.getElem?_eq_getElem Gr]at this;exact Option.some.inj this
  rw[e1,he]
  exact⟨ds,h.plen,h.part,fun k hk Hp=>h.pdone k hk Hp hk⟩
 ·exact(h.done j hj Gr (by omega)).1
end
theorem Qgh{w:World}{base:Nat}{e:TypeId}{size g n cap:Nat}{xs:List Value}(h:w.ownsRow base e size (.slice (some ⟨g,0,none⟩) n cap) n xs)(j:Nat):w.frozen? ⟨g,j,none⟩=false:=h.frozenAt j
set_option maxRecDepth 100000 in
theorem Qil(base:Nat)(v:Value)(out:List FdT)(w:World)(h:Qsa w base v out)(hl:out.length≤6000)(kT:∀x∈out,OkD x.2) :
 Calls Tryz.prog 41 #[v] w fun e w'=>∃v',e = .returned v'∧Qsa w' w.heap.size v' out∧Below w.heap.size w w':=by
 obtain⟨vs,h1,h2,h3⟩:=h
 have gP:∀u∈vs,u.oneCell'=true:=by
  intro u hu
  obtain⟨k,hk,rfl⟩:=List.getElem_of_mem hu
  obtain⟨a,c,e⟩:=(h3 k (by omega) hk).slice
  rw[e];rfl
 have cC:=hid (Qel base v out.length (QEa out vs) w h2 (QCe out vs gP) (by omega))
 have H3:=hid h3
 have Ks:=hid kT
 have hvs:vs.length≤6000:=by omega
 have H1:=hid h1
 clear h2 h3 kT gP h1
 go_enter Tryz.func41,Tryz.ntmps41
 go_wp2_with fail
 refine(by exact cC.out:Calls _ _ _ _ _).mono ?_
 rintro e w1 ⟨v',rfl,Hc,Hf⟩
 obtain⟨va,vc,rfl⟩:=Qia Hc
 by_cases h0:out.length=0
 ·have dw:out=[]:=List.length_eq_zero_iff.1 h0
  subst dw
  have Gu:=hid Hc
  have jo:=hid Hf
  clear Hc Hf h0
  go_wp2_with fail
  go_loopg [9] 1 (fun f x wr=>x = .int .i64 0∧w1=wr)
  case atStart=>exact⟨rfl,rfl⟩
  case round=>
   obtain⟨rfl,rfl⟩:=hrel
   go_wp2_with fail
   go_ret
   exact⟨_,rfl,⟨[],rfl,by simpa[QEa]using Gu.out,fun k hk=>by cases hk⟩,jo.out⟩
 ·obtain⟨g,cap,e1,_,_,_⟩:=QVb Hc (by omega)
  cases e1
  have Gu:=hid Hc
  have jo:=hid Hf
  clear Hc Hf
  go_wp2_with fail
  go_loopg [9] (out.length) (fun f x wr=>∃(i:Nat) (us:List Value),x = .int .i64 i∧i≤out.length∧out.length≤i+f∧Qfr w base g vc out vs us i wr)
  case atStart=>exact⟨0,vs,rfl,by omega,by omega,H1.out,Gu.out,fun j _ _ e=>absurd e (by omega),fun j _=>rfl,jo.out⟩
  case round=>
   obtain⟨i,us,rfl,G3,Kc,hS⟩:=hrel
   obtain⟨io,rfl⟩:∃x:Nat,x=i:=⟨_,rfl⟩
   obtain⟨go,rfl⟩:∃x:Nat,x=gk:=⟨_,rfl⟩
   obtain⟨wo,rfl⟩:∃x:World,x=wr:=⟨_,rfl⟩
   by_cases Hh:io<out.length
   ·have KR:=hS.len
    have Hl:=hS.below
    have am:=hS.row
    have e5:us[io]'(by omega)=vs[io]'(by have:=H1.out;omega):=by
     have:=hS.left io (Nat.le_refl _)
     rw[List.getElem?_eq_getElem (by omega),List.getElem?_eq_getElem (by have:=H1.out;omega)]at this
     exact Option.some.inj this
    have iq:=H3.out io Hh (by have:=H1.out;omega)
    rw[←e5]at iq
    have xT:=Ks.out out[io] (List.getElem_mem Hh)
    obtain⟨cs,c1,c2w,c3⟩:=iq
    have c2:=Qba c2w (Qaa.of_fresh Hl (fun _=>False)) (fun _ _ e=>e)
    clear c2w
    have Km:wo.cell? ⟨g,io*7+3,none⟩=some us[io]:=by rw[am.cellAt _ (by omega)];exact(Qpd out us io Hh (by omega) KR).2.2.2.1
    have fY:=(am.lt g rfl).2
    have vr:=Qgh am (io*7+3)
    obtain⟨ps,GO⟩:∃ps,ps=out[io].2.parts:=⟨_,rfl⟩
    rw[←GO]at c1 c2
    have om:∀u∈cs,u.oneCell'=true:=by
     intro u hu
     obtain⟨k,hk,rfl⟩:=List.getElem_of_mem hu
     obtain⟨a,c,e⟩:=(c3 k (by rw[←GO];omega) hk).slice
     rw[e];rfl
    obtain⟨JT,ab⟩:=xT
    rw[←GO]at JT ab
    have em:=hid (show ∀k (h:k<ps.length) (h2:k<cs.length),Qfa w base cs[k] ps[k].cells from fun k h h2=>by subst GO;exact c3 k h h2)
    have jr:=hid ab
    obtain⟨pa0,pc0,e0⟩:=Qia c2
    have uj:=hid (QSj base us[io] ps.length (QDa ps cs) wo c2 (Q3e ps cs om) (by omega))
    have HS:=hid hS
    have wG:=hid GO
    have iQ:=hid c1
    have qz:(io:Int)<(out.length:Int):=by omega
    rw[e0]at Km uj
    clear hS e0 KR Hl am e5 c1 c2 c3 GO om ab
    go_wp2_with fail
    refine(by exact uj.out:Calls _ _ _ _ _).mono ?_
    rintro e w2 ⟨pv,rfl,JX,Ho⟩
    obtain⟨pa,pc,rfl⟩:=Qia JX
    have kO:=Qkf Km fY Ho
    have JE:=(Ho.frozen (p:=⟨g,io*7+3,none⟩) fY).trans vr
    have s8:=Nat.lt_of_lt_of_le fY Ho.size
    have HM:=hid (HS.out.open1 Hh Ho JX iQ.out)
    clear JX Ho Km vr
    go_upto_region 6 with fail
    generalize w2.setCell ⟨g,io*7+3,none⟩ (.slice pa ps.length pc)=w3 at *
    have vG:w3.cell? ⟨g,io*7+3,none⟩=some (.slice pa ps.length pc):=by
     have hr:=HM.out.row
     have ic:=HM.out.len
     rw[hr.cellAt _ (by omega),(Qpd out _ io Hh (by omega) ic).2.2.2.1]
     have:=HM.out.here
     rw[List.getElem?_eq_getElem (by omega)]at this
     exact this
    have qH:=(HM.out.row.lt g rfl).2
    clear kO JE s8
    go_wp2_with fail
    go_loopg [28] (ps.length) (fun f x wr=>∃(k:Nat) (ds:List Value),x = .int .i64 k∧k≤ps.length∧ps.length≤k+f∧QNo w base g vc out vs (us.set io (.slice pa ps.length pc)) io ps (.slice pa ps.length pc) cs ds k wr)
    case atStart=>exact⟨0,cs,rfl,by omega,by omega,HM.out⟩
    case round=>
     clear vG qH
     obtain⟨k,ds,rfl,Ht,Hp,hM⟩:=hrel
     have xB:=hid hM
     by_cases hklt:k<ps.length
     ·have ir:=hM.plen
      have bO:=hM.part
      have Hc:=hM.row
      have ic:=hM.len
      obtain⟨gp,cp,e6,gpl,_,vm⟩:=QVb bO (by omega)
      cases e6
      have e8:ds[k]'(by omega)=cs[k]'(by have:=iQ.out;omega):=by
       have:=hM.pleft k (Nat.le_refl _)
       rw[List.getElem?_eq_getElem (by omega),List.getElem?_eq_getElem (by have:=iQ.out;omega)]at this
       exact Option.some.inj this
      have G8:Qfa wr base ds[k] ps[k].cells:=by
       rw[e8]
       exact Qba (em.out k hklt (by have:=iQ.out;omega)) (Qaa.of_fresh hM.below (fun _=>False)) (fun _ _ e=>e)
      have d0:wr.cell? ⟨g,io*7+3,none⟩=some (.slice (some ⟨gp,0,none⟩) ps.length pc):=by
       rw[Hc.cellAt _ (by omega),(Qpd out _ io Hh (by omega) ic).2.2.2.1]
       have:=hM.here
       rw[List.getElem?_eq_getElem (by omega)]at this
       exact this
      have d1:wr.cell? ⟨gp,k*3+1,none⟩=some ds[k]:=(vm _ (by omega)).trans (Q6d ps ds k hklt (by omega) ir).2.1
      have df:=Qgh bO (k*3+1)
      have gl:=(Hc.lt g rfl).2
      have dW:(k:Int)<(ps.length:Int):=by omega
      obtain⟨ca,cc,e7⟩:=G8.slice
      rw[e7]at d1 G8
      have ke:=jr.out ps[k] (List.getElem_mem hklt)
      have uk:=hid (show ∀(w7:World) (cv:Value),Below wr.heap.size wr w7→Qfa w7 wr.heap.size cv ps[k].cells→QNo w base g vc out vs (us.set io (.slice (some ⟨gp,0,none⟩) ps.length pc)) io ps (.slice (some ⟨gp,0,none⟩) ps.length pc) cs (ds.set k cv) (k+1) (w7.setCell ⟨gp,k*3+1,none⟩ cv)from fun w7 cv h1 h2=>hM.step hklt h1 h2)
      unfold Qfa at G8 uk
      generalize ps[k].cells=pk at *
      have q8:=hid (fun(wx:World) (hx:wx.ownsRow base 72 2 (.slice ca pk.length cc) pk.length (QCb pk))=>Qwj base (.slice ca pk.length cc) pk.length (QCb pk) wx hx (QHh pk) (by omega))
      have vW:=hid G8
      clear hM e7 e8 ir bO Hc ic G8 vm
      go_upto_region 9 with fail
      go_region_with (go_at_call 75;refine(q8.out _ (by exact vW.out.drew)).mono ?_;rintro e w7 ⟨rv,rfl,Hi,G7⟩;obtain⟨rva,rvc,tC⟩:=Qia Hi;subst tC;have GB:Below wr.heap.size wr w7:=(Below.refl wr.heap.size wr).drew.trans G7;have kx:=Qkf d0 gl GB;have kd:=Qkf d1 gpl GB;have kz:=(GB.frozen (p:=⟨gp,k*3+1,none⟩) gpl).trans df;have kl:=Nat.lt_of_lt_of_le gpl GB.size;have kgl:=Nat.lt_of_lt_of_le gl GB.size)
      all_goals
       have gU:=hid (uk.out _ _ GB Hi)
       clear G7 Hi GB
       go_wp2_with fail
       go_roundg (gk-1)
       case measure=>omega
       case rel=>exact⟨k+1,_,by go_num,by omega,by omega,gU.out⟩
     ·obtain rfl:k=ps.length:=by omega
      have Ms:=hid (hM.close1 Hh wG.out.symm)
      clear hM xB
      go_wp2_with fail
      go_roundg (go-1)
      case measure=>omega
      case rel=>exact⟨io+1,_,by go_num,by omega,by omega,Ms.out⟩
   ·obtain rfl:io=out.length:=by omega
    have HF:=hid (show Qsa wo w.heap.size (.slice (some ⟨g,0,none⟩) out.length vc) out from⟨us,hS.len,hS.row,fun j hj Gr=>hS.done j hj Gr hj⟩)
    have HB:=hid hS.below
    clear hS
    go_wp2_with fail
    go_ret
    exact⟨_,rfl,HF.out,HB.out⟩
noncomputable def QOl(n:Nat):Code:=(QIi (Tryz.f72.body.getD .skip) n).getD .skip
set_option maxRecDepth 100000 in
theorem Qtr{Q:Exit→Act→World→Prop}(A:Nat→Prop)(fuel lb mb base pb qb eb before file:Nat)(fv ov rv dv outv mv0 pv:Value)(F:List Qoa)(opn2:List Nat)(ord:List ByteArray)(giv:QBb)(D:List Qwa)(out:List FdT)(d:Qwa)(rest:List FdT)(w0 w:World)(hrec:Hid (QFh fuel))(hF:F.length≤8)(hT:Hid (∀f∈F,f.text.size≤maxLen∧f.name.size≤maxLen))(KN:F.length<opn2.length+fuel)(Hf:0<base)(GM:base≤w0.heap.size)(KP:Hid (QFf w0))(hA:Hid (∀g,A g→g<w0.heap.size))(JW:Hid (∀i,LdS lb mb ov rv i→base≤i))(hk:d.kind≠6){u3 u4 u5 u6 u8 u9 u11 u13 u16 u17 u18 u19 u20 u21 u22 u23 u24 u25 u26 u27 u28 u29 u30 u31 u32 u33 u34 u35 u36 u37 u38 u39 u40 u41 u42 u43 u44 u45 u46 u47 u48 u49 u50 u51 u52 u53 u54 u55 u56 u57 u58 u59 u60 u61 u62 u63 u64 u65 u66 u67 u68 u69 u70 u71 u72 u73 u74 u76 u77 u78 u79 u80 u81 u82 u83 u84 u85 u86 u87 u88 u89 u90 u91 u92 u93 u94 u95 u96 u97 u98 u99 u100 u101 u102 u103 u104 u105 u106 u107 u108 u109 u110 u111 u112 u113 u114 u115 u116 u117 u118 u119 u120 u121 u122 u123 u124 u125 u126 u127 u128 u129 u130 u131 u132 u133 u134 u135 u136 u137 u138 u139 u140 u141 u142 u143 u144 u145 u146 u147 u148 u149 u150 u151 u152 u153 u154 u155 u156 u157 u158:Value}
 (hW:Hid (LdW A lb mb base pb qb fv ov rv dv F opn2 (file:Int) D before w0 outv ord giv out w)) (hE:Hid (Qca w eb #[.int .i64 d.kind,.string d.label,.string d.name,pv,.int .i64 (file:Int),.int .i64 d.line,.int .i64 d.col] 34)) (hM:Hid (Qsa w base mv0 [((file:Int),d)])) (JQ:Hid (∀g,mv0.ownBlock=some g→outv.ownBlock≠some g))
 (hQ:Hid (∀(x11 x15 x16 x17 x18 x75 x76 x77 x78 x79 x80 x81 x84 x85 x86 x87 x88 x89 x92 x93 x94 x95 x96 x97 x98 x99 x100 x101 x102 x103 x104 x105 x106 x107 x108 x109 x110 x111 x112 x113 x114 x115 x118:Value) (wx:World) (ord':List ByteArray) (giv':QBb) (m:List FdT),LdW A lb mb base pb qb fv ov rv dv F opn2 (file:Int) D before w0 outv ord' giv' out wx→Qsa wx base x15 m→(∀g,x15.ownBlock=some g→outv.ownBlock≠some g)→m.length≤6000→Qza (ldT F fuel opn2) F opn2 before (((file:Int),d)::rest) ord giv out=(if Qmb before out<m.length then .error (Qef (m.getD (Qmb before out) Q9d),3)else Qza (ldT F fuel opn2) F opn2 before rest ord' giv' (out++m))→Q .normal ⟨#[.pointer (some ⟨lb,0,none⟩),.int .i64 (file:Int),.int .i64 (before:Int),u3,u4,u5,u6,.pointer (some ⟨pb,0,none⟩),u8,u9,.pointer (some ⟨qb,0,none⟩),x11,outv,u13,.pointer (some ⟨eb,0,none⟩),x15,x16,x17,x18,u19,u20,u21,u22,u23,u24,u25,u26,u27,u28,u29,u30,u31,u32,u33,u34,u35,u36,u37,u38,u39,u40,u41,u42,u43,u44,u45,u46,u47,u48,u49,u50,u51,u52,u53,u54,u55,u56,u57,u58,u59,u60,u61,u62,u63,u64,u65,u66,u67,u68,u69,u70,u71,u72,u73,u74,x75,x76,x77,x78,x79,x80,x81,u82,u83,x84,x85,x86,x87,x88,x89,u90,u91,x92,x93,x94,x95,x96,x97,x98,x99,x100,x101,x102,x103,x104,x105,x106,x107,x108,x109,x110,x111,x112,x113,x114,x115,u116,u117,x118,u119,u120,u121,u122,u123,u124,u125,u126,u127,u128,u129,u130,u131,u132,u133,u134,u135,u136,u137,u138,u139,u140,u141,u142,u143,u144,u145,u146,u147,u148,u149,u150,u151,u152,u153,u154,u155,u156,u157,u158],[]⟩ wx))
 (hQE:Hid (∀(c:Array Value) (wx:World) (p:Qag) (er:Int),c[6]? = some (.slice none 0 0)→c[7]? = some (.pointer (some ⟨pb,0,none⟩))→c[8]? = some (.int .i64 er)→Qca wx pb #[.int .i64 p.1,.int .i64 p.2.1,.int .i64 p.2.2] 27→Qaa (LdS lb mb ov rv) w0 wx→Qza (ldT F fuel opn2) F opn2 before (((file:Int),d)::rest) ord giv out = .error (p,er)→Q .ret ⟨c,[]⟩ wx)) :
 (QOl 75).wp Tryz.prog Q ⟨#[.pointer (some ⟨lb,0,none⟩),.int .i64 (file:Int),.int .i64 (before:Int),u3,u4,u5,u6,.pointer (some ⟨pb,0,none⟩),u8,u9,.pointer (some ⟨qb,0,none⟩),u11,outv,u13,.pointer (some ⟨eb,0,none⟩),mv0,u16,u17,u18,u19,u20,u21,u22,u23,u24,u25,u26,u27,u28,u29,u30,u31,u32,u33,u34,u35,u36,u37,u38,u39,u40,u41,u42,u43,u44,u45,u46,u47,u48,u49,u50,u51,u52,u53,u54,u55,u56,u57,u58,u59,u60,u61,u62,u63,u64,u65,u66,u67,u68,u69,u70,u71,u72,u73,u74,.bool (d.kind == 6),u76,u77,u78,u79,u80,u81,u82,u83,u84,u85,u86,u87,u88,u89,u90,u91,u92,u93,u94,u95,u96,u97,u98,u99,u100,u101,u102,u103,u104,u105,u106,u107,u108,u109,u110,u111,u112,u113,u114,u115,u116,u117,u118,u119,u120,u121,u122,u123,u124,u125,u126,u127,u128,u129,u130,u131,u132,u133,u134,u135,u136,u137,u138,u139,u140,u141,u142,u143,u144,u145,u146,u147,u148,u149,u150,u151,u152,u153,u154,u155,u156,u157,u158],[]⟩ w:=by
 simp only[QOl,QIi,Tryz.f72,Option.getD_some,reduceIte,Nat.reduceEqDiff]
 have kR:(d.kind == 6)=false:=by simpa using hk
 have ag:=hid (QZe (go:=ldT F fuel opn2) (F:=F) (opn:=opn2) (before:=before) (d:=((file:Int),d)) (r:=rest) (ord:=ord) (giv:=giv) (out:=out) hk)
 clear hk
 go_wp2_with fail
 exact hQ.out _ _ _ _ _ _ _ _ _ _ _ _ _ _ _ _ _ _ _ _ _ _ _ _ _ _ _ _ _ _ _ _ _ _ _ _ _ _ _ _ _ _ _ _ ord giv [((file:Int),d)] hW.out hM.out JQ.out (by simp) ag.out
set_option maxRecDepth 100000 in
theorem Qxp{Q:Exit→Act→World→Prop}(A:Nat→Prop)(fuel lb mb base pb qb eb before file:Nat)(fv ov rv dv outv mv0 pv:Value)(F:List Qoa)(opn2:List Nat)(ord:List ByteArray)(giv:QBb)(D:List Qwa)(out:List FdT)(d:Qwa)(rest:List FdT)(w0 w:World)(hrec:Hid (QFh fuel))(hF:F.length≤8)(hT:Hid (∀f∈F,f.text.size≤maxLen∧f.name.size≤maxLen))(KN:F.length<opn2.length+fuel)(Hf:0<base)(GM:base≤w0.heap.size)(KP:Hid (QFf w0))(hA:Hid (∀g,A g→g<w0.heap.size))(JW:Hid (∀i,LdS lb mb ov rv i→base≤i))(hk:d.kind=6)(hf:Q2b F d.name=none){u3 u4 u5 u6 u8 u9 u11 u13 u16 u17 u18 u19 u20 u21 u22 u23 u24 u25 u26 u27 u28 u29 u30 u31 u32 u33 u34 u35 u36 u37 u38 u39 u40 u41 u42 u43 u44 u45 u46 u47 u48 u49 u50 u51 u52 u53 u54 u55 u56 u57 u58 u59 u60 u61 u62 u63 u64 u65 u66 u67 u68 u69 u70 u71 u72 u73 u74 u76 u77 u78 u79 u80 u81 u82 u83 u84 u85 u86 u87 u88 u89 u90 u91 u92 u93 u94 u95 u96 u97 u98 u99 u100 u101 u102 u103 u104 u105 u106 u107 u108 u109 u110 u111 u112 u113 u114 u115 u116 u117 u118 u119 u120 u121 u122 u123 u124 u125 u126 u127 u128 u129 u130 u131 u132 u133 u134 u135 u136 u137 u138 u139 u140 u141 u142 u143 u144 u145 u146 u147 u148 u149 u150 u151 u152 u153 u154 u155 u156 u157 u158:Value}
 (hW:Hid (LdW A lb mb base pb qb fv ov rv dv F opn2 (file:Int) D before w0 outv ord giv out w)) (hE:Hid (Qca w eb #[.int .i64 d.kind,.string d.label,.string d.name,pv,.int .i64 (file:Int),.int .i64 d.line,.int .i64 d.col] 34)) (hM:Hid (Qsa w base mv0 [((file:Int),d)])) (JQ:Hid (∀g,mv0.ownBlock=some g→outv.ownBlock≠some g))
 (hQ:Hid (∀(x11 x15 x16 x17 x18 x75 x76 x77 x78 x79 x80 x81 x84 x85 x86 x87 x88 x89 x92 x93 x94 x95 x96 x97 x98 x99 x100 x101 x102 x103 x104 x105 x106 x107 x108 x109 x110 x111 x112 x113 x114 x115 x118:Value) (wx:World) (ord':List ByteArray) (giv':QBb) (m:List FdT),LdW A lb mb base pb qb fv ov rv dv F opn2 (file:Int) D before w0 outv ord' giv' out wx→Qsa wx base x15 m→(∀g,x15.ownBlock=some g→outv.ownBlock≠some g)→m.length≤6000→Qza (ldT F fuel opn2) F opn2 before (((file:Int),d)::rest) ord giv out=(if Qmb before out<m.length then .error (Qef (m.getD (Qmb before out) Q9d),3)else Qza (ldT F fuel opn2) F opn2 before rest ord' giv' (out++m))→Q .normal ⟨#[.pointer (some ⟨lb,0,none⟩),.int .i64 (file:Int),.int .i64 (before:Int),u3,u4,u5,u6,.pointer (some ⟨pb,0,none⟩),u8,u9,.pointer (some ⟨qb,0,none⟩),x11,outv,u13,.pointer (some ⟨eb,0,none⟩),x15,x16,x17,x18,u19,u20,u21,u22,u23,u24,u25,u26,u27,u28,u29,u30,u31,u32,u33,u34,u35,u36,u37,u38,u39,u40,u41,u42,u43,u44,u45,u46,u47,u48,u49,u50,u51,u52,u53,u54,u55,u56,u57,u58,u59,u60,u61,u62,u63,u64,u65,u66,u67,u68,u69,u70,u71,u72,u73,u74,x75,x76,x77,x78,x79,x80,x81,u82,u83,x84,x85,x86,x87,x88,x89,u90,u91,x92,x93,x94,x95,x96,x97,x98,x99,x100,x101,x102,x103,x104,x105,x106,x107,x108,x109,x110,x111,x112,x113,x114,x115,u116,u117,x118,u119,u120,u121,u122,u123,u124,u125,u126,u127,u128,u129,u130,u131,u132,u133,u134,u135,u136,u137,u138,u139,u140,u141,u142,u143,u144,u145,u146,u147,u148,u149,u150,u151,u152,u153,u154,u155,u156,u157,u158],[]⟩ wx))
 (hQE:Hid (∀(c:Array Value) (wx:World) (p:Qag) (er:Int),c[6]? = some (.slice none 0 0)→c[7]? = some (.pointer (some ⟨pb,0,none⟩))→c[8]? = some (.int .i64 er)→Qca wx pb #[.int .i64 p.1,.int .i64 p.2.1,.int .i64 p.2.2] 27→Qaa (LdS lb mb ov rv) w0 wx→Qza (ldT F fuel opn2) F opn2 before (((file:Int),d)::rest) ord giv out = .error (p,er)→Q .ret ⟨c,[]⟩ wx)) :
 (QOl 75).wp Tryz.prog Q ⟨#[.pointer (some ⟨lb,0,none⟩),.int .i64 (file:Int),.int .i64 (before:Int),u3,u4,u5,u6,.pointer (some ⟨pb,0,none⟩),u8,u9,.pointer (some ⟨qb,0,none⟩),u11,outv,u13,.pointer (some ⟨eb,0,none⟩),mv0,u16,u17,u18,u19,u20,u21,u22,u23,u24,u25,u26,u27,u28,u29,u30,u31,u32,u33,u34,u35,u36,u37,u38,u39,u40,u41,u42,u43,u44,u45,u46,u47,u48,u49,u50,u51,u52,u53,u54,u55,u56,u57,u58,u59,u60,u61,u62,u63,u64,u65,u66,u67,u68,u69,u70,u71,u72,u73,u74,.bool (d.kind == 6),u76,u77,u78,u79,u80,u81,u82,u83,u84,u85,u86,u87,u88,u89,u90,u91,u92,u93,u94,u95,u96,u97,u98,u99,u100,u101,u102,u103,u104,u105,u106,u107,u108,u109,u110,u111,u112,u113,u114,u115,u116,u117,u118,u119,u120,u121,u122,u123,u124,u125,u126,u127,u128,u129,u130,u131,u132,u133,u134,u135,u136,u137,u138,u139,u140,u141,u142,u143,u144,u145,u146,u147,u148,u149,u150,u151,u152,u153,u154,u155,u156,u157,u158],[]⟩ w:=by
 have jR:Qrb F d.name = -1:=by unfold Qrb;rw[hf]
 have ag:=hid (Q3d (go:=ldT F fuel opn2) (F:=F) (opn:=opn2) (before:=before) (d:=((file:Int),d)) (r:=rest) (ord:=ord) (giv:=giv) (out:=out) hk hf)
 clear hf
 simp only[QOl,QIi,Tryz.f72,Option.getD_some,reduceIte,Nat.reduceEqDiff]
 have kR:(d.kind == 6)=true:=by simpa using hk
 obtain⟨ov',rv',hL,Kv,gN⟩:=hW.out.ld
 have GU:=QUe lb mb fv ov' rv' F d.name w hL.holds hL.files (by omega)
 rw[jR]at GU
 have MA:=hid GU
 obtain⟨-,-,a2,-⟩:=Qna hE.out
 have ael:=hE.out.lt
 clear GU hk
 go_wp2_with fail
 refine(by exact MA.out:Calls _ _ _ _ _).mono ?_
 rintro e w1 ⟨rfl,GT⟩
 have kJ:=hid (hW.out.new1 GT)
 have Gt:=hid (hL.new GT)
 have Jy:=hid (hE.out.keeps (Qaa.of_fresh GT (fun _=>False)) (fun e=>e))
 have ch:=hid (hM.out.new GT)
 clear hL GT a2 ael
 have hP:=kJ.out.pos
 obtain⟨b0,b1,b2,g0,g1,g2,gl⟩:=three hP
 obtain⟨-,-,-,-,a4,a5,a6⟩:=Qna Jy.out
 have ael:=Jy.out.lt
 have Hg:=hid (((hP.set 0 (.int .i64 (file:Int))).set 1 (.int .i64 d.line)).set 2 (.int .i64 d.col)).drew
 have JV:=hid ((((kJ.out.keeps).setCell (p:=⟨pb,0,none⟩) (.inl kJ.out.low.1) (.int .i64 (file:Int))).setCell (p:=⟨pb,1,none⟩) (.inl kJ.out.low.1) (.int .i64 d.line)).setCell (p:=⟨pb,2,none⟩) (.inl kJ.out.low.1) (.int .i64 d.col)).drew
 clear hP
 go_wp2_with fail
 go_region
 all_goals
  go_wp2_with fail
  exact hQE.out _ _ ((file:Int),d.line,d.col) 4 rfl rfl rfl (by exact Hg.out) (by exact JV.out) ag.out
set_option maxRecDepth 100000 in
theorem Qrm{Q:Exit→Act→World→Prop}(A:Nat→Prop)(fuel lb mb base pb qb eb before file:Nat)(fv ov rv dv outv mv0 pv:Value)(F:List Qoa)(opn2:List Nat)(ord:List ByteArray)(giv:QBb)(D:List Qwa)(out:List FdT)(d:Qwa)(rest:List FdT)(w0 w:World)(hrec:Hid (QFh fuel))(hF:F.length≤8)(hT:Hid (∀f∈F,f.text.size≤maxLen∧f.name.size≤maxLen))(KN:F.length<opn2.length+fuel)(Hf:0<base)(GM:base≤w0.heap.size)(KP:Hid (QFf w0))(hA:Hid (∀g,A g→g<w0.heap.size))(JW:Hid (∀i,LdS lb mb ov rv i→base≤i))(hk:d.kind=6)(k:Nat)(hf:Hid (Q2b F d.name=some k))(hc:opn2.contains k=true){u3 u4 u5 u6 u8 u9 u11 u13 u16 u17 u18 u19 u20 u21 u22 u23 u24 u25 u26 u27 u28 u29 u30 u31 u32 u33 u34 u35 u36 u37 u38 u39 u40 u41 u42 u43 u44 u45 u46 u47 u48 u49 u50 u51 u52 u53 u54 u55 u56 u57 u58 u59 u60 u61 u62 u63 u64 u65 u66 u67 u68 u69 u70 u71 u72 u73 u74 u76 u77 u78 u79 u80 u81 u82 u83 u84 u85 u86 u87 u88 u89 u90 u91 u92 u93 u94 u95 u96 u97 u98 u99 u100 u101 u102 u103 u104 u105 u106 u107 u108 u109 u110 u111 u112 u113 u114 u115 u116 u117 u118 u119 u120 u121 u122 u123 u124 u125 u126 u127 u128 u129 u130 u131 u132 u133 u134 u135 u136 u137 u138 u139 u140 u141 u142 u143 u144 u145 u146 u147 u148 u149 u150 u151 u152 u153 u154 u155 u156 u157 u158:Value}
 (hW:Hid (LdW A lb mb base pb qb fv ov rv dv F opn2 (file:Int) D before w0 outv ord giv out w)) (hE:Hid (Qca w eb #[.int .i64 d.kind,.string d.label,.string d.name,pv,.int .i64 (file:Int),.int .i64 d.line,.int .i64 d.col] 34)) (hM:Hid (Qsa w base mv0 [((file:Int),d)])) (JQ:Hid (∀g,mv0.ownBlock=some g→outv.ownBlock≠some g))
 (hQ:Hid (∀(x11 x15 x16 x17 x18 x75 x76 x77 x78 x79 x80 x81 x84 x85 x86 x87 x88 x89 x92 x93 x94 x95 x96 x97 x98 x99 x100 x101 x102 x103 x104 x105 x106 x107 x108 x109 x110 x111 x112 x113 x114 x115 x118:Value) (wx:World) (ord':List ByteArray) (giv':QBb) (m:List FdT),LdW A lb mb base pb qb fv ov rv dv F opn2 (file:Int) D before w0 outv ord' giv' out wx→Qsa wx base x15 m→(∀g,x15.ownBlock=some g→outv.ownBlock≠some g)→m.length≤6000→Qza (ldT F fuel opn2) F opn2 before (((file:Int),d)::rest) ord giv out=(if Qmb before out<m.length then .error (Qef (m.getD (Qmb before out) Q9d),3)else Qza (ldT F fuel opn2) F opn2 before rest ord' giv' (out++m))→Q .normal ⟨#[.pointer (some ⟨lb,0,none⟩),.int .i64 (file:Int),.int .i64 (before:Int),u3,u4,u5,u6,.pointer (some ⟨pb,0,none⟩),u8,u9,.pointer (some ⟨qb,0,none⟩),x11,outv,u13,.pointer (some ⟨eb,0,none⟩),x15,x16,x17,x18,u19,u20,u21,u22,u23,u24,u25,u26,u27,u28,u29,u30,u31,u32,u33,u34,u35,u36,u37,u38,u39,u40,u41,u42,u43,u44,u45,u46,u47,u48,u49,u50,u51,u52,u53,u54,u55,u56,u57,u58,u59,u60,u61,u62,u63,u64,u65,u66,u67,u68,u69,u70,u71,u72,u73,u74,x75,x76,x77,x78,x79,x80,x81,u82,u83,x84,x85,x86,x87,x88,x89,u90,u91,x92,x93,x94,x95,x96,x97,x98,x99,x100,x101,x102,x103,x104,x105,x106,x107,x108,x109,x110,x111,x112,x113,x114,x115,u116,u117,x118,u119,u120,u121,u122,u123,u124,u125,u126,u127,u128,u129,u130,u131,u132,u133,u134,u135,u136,u137,u138,u139,u140,u141,u142,u143,u144,u145,u146,u147,u148,u149,u150,u151,u152,u153,u154,u155,u156,u157,u158],[]⟩ wx))
 (hQE:Hid (∀(c:Array Value) (wx:World) (p:Qag) (er:Int),c[6]? = some (.slice none 0 0)→c[7]? = some (.pointer (some ⟨pb,0,none⟩))→c[8]? = some (.int .i64 er)→Qca wx pb #[.int .i64 p.1,.int .i64 p.2.1,.int .i64 p.2.2] 27→Qaa (LdS lb mb ov rv) w0 wx→Qza (ldT F fuel opn2) F opn2 before (((file:Int),d)::rest) ord giv out = .error (p,er)→Q .ret ⟨c,[]⟩ wx)) :
 (QOl 75).wp Tryz.prog Q ⟨#[.pointer (some ⟨lb,0,none⟩),.int .i64 (file:Int),.int .i64 (before:Int),u3,u4,u5,u6,.pointer (some ⟨pb,0,none⟩),u8,u9,.pointer (some ⟨qb,0,none⟩),u11,outv,u13,.pointer (some ⟨eb,0,none⟩),mv0,u16,u17,u18,u19,u20,u21,u22,u23,u24,u25,u26,u27,u28,u29,u30,u31,u32,u33,u34,u35,u36,u37,u38,u39,u40,u41,u42,u43,u44,u45,u46,u47,u48,u49,u50,u51,u52,u53,u54,u55,u56,u57,u58,u59,u60,u61,u62,u63,u64,u65,u66,u67,u68,u69,u70,u71,u72,u73,u74,.bool (d.kind == 6),u76,u77,u78,u79,u80,u81,u82,u83,u84,u85,u86,u87,u88,u89,u90,u91,u92,u93,u94,u95,u96,u97,u98,u99,u100,u101,u102,u103,u104,u105,u106,u107,u108,u109,u110,u111,u112,u113,u114,u115,u116,u117,u118,u119,u120,u121,u122,u123,u124,u125,u126,u127,u128,u129,u130,u131,u132,u133,u134,u135,u136,u137,u138,u139,u140,u141,u142,u143,u144,u145,u146,u147,u148,u149,u150,u151,u152,u153,u154,u155,u156,u157,u158],[]⟩ w:=by
 have jR:Qrb F d.name=(k:Int):=by unfold Qrb;rw[hf.out]
 have ag:=hid (QYc (go:=ldT F fuel opn2) (F:=F) (opn:=opn2) (before:=before) (d:=((file:Int),d)) (r:=rest) (ord:=ord) (giv:=giv) (out:=out) hk hf.out hc)
 simp only[QOl,QIi,Tryz.f72,Option.getD_some,reduceIte,Nat.reduceEqDiff]
 have kR:(d.kind == 6)=true:=by simpa using hk
 obtain⟨ov',rv',hL,Kv,gN⟩:=hW.out.ld
 have GU:=QUe lb mb fv ov' rv' F d.name w hL.holds hL.files (by omega)
 rw[jR]at GU
 have MA:=hid GU
 obtain⟨-,-,a2,-⟩:=Qna hE.out
 have ael:=hE.out.lt
 clear GU hk
 go_wp2_with fail
 refine(by exact MA.out:Calls _ _ _ _ _).mono ?_
 rintro e w1 ⟨rfl,GT⟩
 have kJ:=hid (hW.out.new1 GT)
 have Gt:=hid (hL.new GT)
 have Jy:=hid (hE.out.keeps (Qaa.of_fresh GT (fun _=>False)) (fun e=>e))
 have ch:=hid (hM.out.new GT)
 clear hL GT a2 ael
 have MF:=QGd ov' opn2 k w1 (Q3f Gt.out.opn) (by have:=kJ.out.ok.short;omega)
 rw[hc]at MF
 have HC:=hid MF
 obtain⟨oa,oc,rfl⟩:=Qia Gt.out.opn
 obtain⟨l0,l1,l2,l3,lf0,lf1,lf2,lf3,ll⟩:w1.cell? ⟨lb,0,none⟩=some fv∧w1.cell? ⟨lb,1,none⟩=some (.map (some mb))∧w1.cell? ⟨lb,2,none⟩=some (.slice oa opn2.length oc)∧w1.cell? ⟨lb,3,none⟩=some rv'∧w1.frozen? ⟨lb,0,none⟩=false∧w1.frozen? ⟨lb,1,none⟩=false∧w1.frozen? ⟨lb,2,none⟩=false∧w1.frozen? ⟨lb,3,none⟩=false∧lb<w1.heap.size:=⟨Gt.out.holds.cell 0,Gt.out.holds.cell 1,Gt.out.holds.cell 2,Gt.out.holds.cell 3,Gt.out.holds.free 0,Gt.out.holds.free 1,Gt.out.holds.free 2,Gt.out.holds.free 3,Gt.out.holds.lt⟩
 have aj:k<F.length:=QFb hf.out
 clear MF
 go_wp2_with fail
 refine(by exact HC.out:Calls _ _ _ _ _).mono ?_
 rintro e w2 ⟨rfl,rfl⟩
 have hP:=kJ.out.pos
 obtain⟨b0,b1,b2,g0,g1,g2,gl⟩:=three hP
 obtain⟨-,-,-,-,a4,a5,a6⟩:=Qna Jy.out
 have ael:=Jy.out.lt
 have Hg:=hid (((hP.set 0 (.int .i64 (file:Int))).set 1 (.int .i64 d.line)).set 2 (.int .i64 d.col)).drew
 have JV:=hid ((((kJ.out.keeps).setCell (p:=⟨pb,0,none⟩) (.inl kJ.out.low.1) (.int .i64 (file:Int))).setCell (p:=⟨pb,1,none⟩) (.inl kJ.out.low.1) (.int .i64 d.line)).setCell (p:=⟨pb,2,none⟩) (.inl kJ.out.low.1) (.int .i64 d.col)).drew
 clear hP
 go_wp2_with fail
 go_region
 all_goals
  go_wp2_with fail
  exact hQE.out _ _ ((file:Int),d.line,d.col) 10 rfl rfl rfl (by exact Hg.out) (by exact JV.out) ag.out
set_option maxRecDepth 100000 in
theorem QPn{Q:Exit→Act→World→Prop}(A:Nat→Prop)(fuel lb mb base pb qb eb before file:Nat)(fv ov rv dv outv mv0 pv:Value)(F:List Qoa)(opn2:List Nat)(ord:List ByteArray)(giv:QBb)(D:List Qwa)(out:List FdT)(d:Qwa)(rest:List FdT)(w0 w:World)(hrec:Hid (QFh fuel))(hF:F.length≤8)(hT:Hid (∀f∈F,f.text.size≤maxLen∧f.name.size≤maxLen))(KN:F.length<opn2.length+fuel)(Hf:0<base)(GM:base≤w0.heap.size)(KP:Hid (QFf w0))(hA:Hid (∀g,A g→g<w0.heap.size))(JW:Hid (∀i,LdS lb mb ov rv i→base≤i))(hk:d.kind=6)(k:Nat)(hf:Hid (Q2b F d.name=some k))(hc:opn2.contains k=false)(l:List FdT)(hg:Hid (Qkd giv k=some l)){u3 u4 u5 u6 u8 u9 u11 u13 u16 u17 u18 u19 u20 u21 u22 u23 u24 u25 u26 u27 u28 u29 u30 u31 u32 u33 u34 u35 u36 u37 u38 u39 u40 u41 u42 u43 u44 u45 u46 u47 u48 u49 u50 u51 u52 u53 u54 u55 u56 u57 u58 u59 u60 u61 u62 u63 u64 u65 u66 u67 u68 u69 u70 u71 u72 u73 u74 u76 u77 u78 u79 u80 u81 u82 u83 u84 u85 u86 u87 u88 u89 u90 u91 u92 u93 u94 u95 u96 u97 u98 u99 u100 u101 u102 u103 u104 u105 u106 u107 u108 u109 u110 u111 u112 u113 u114 u115 u116 u117 u118 u119 u120 u121 u122 u123 u124 u125 u126 u127 u128 u129 u130 u131 u132 u133 u134 u135 u136 u137 u138 u139 u140 u141 u142 u143 u144 u145 u146 u147 u148 u149 u150 u151 u152 u153 u154 u155 u156 u157 u158:Value}
 (hW:Hid (LdW A lb mb base pb qb fv ov rv dv F opn2 (file:Int) D before w0 outv ord giv out w)) (hE:Hid (Qca w eb #[.int .i64 d.kind,.string d.label,.string d.name,pv,.int .i64 (file:Int),.int .i64 d.line,.int .i64 d.col] 34)) (hM:Hid (Qsa w base mv0 [((file:Int),d)])) (JQ:Hid (∀g,mv0.ownBlock=some g→outv.ownBlock≠some g))
 (hQ:Hid (∀(x11 x15 x16 x17 x18 x75 x76 x77 x78 x79 x80 x81 x84 x85 x86 x87 x88 x89 x92 x93 x94 x95 x96 x97 x98 x99 x100 x101 x102 x103 x104 x105 x106 x107 x108 x109 x110 x111 x112 x113 x114 x115 x118:Value) (wx:World) (ord':List ByteArray) (giv':QBb) (m:List FdT),LdW A lb mb base pb qb fv ov rv dv F opn2 (file:Int) D before w0 outv ord' giv' out wx→Qsa wx base x15 m→(∀g,x15.ownBlock=some g→outv.ownBlock≠some g)→m.length≤6000→Qza (ldT F fuel opn2) F opn2 before (((file:Int),d)::rest) ord giv out=(if Qmb before out<m.length then .error (Qef (m.getD (Qmb before out) Q9d),3)else Qza (ldT F fuel opn2) F opn2 before rest ord' giv' (out++m))→Q .normal ⟨#[.pointer (some ⟨lb,0,none⟩),.int .i64 (file:Int),.int .i64 (before:Int),u3,u4,u5,u6,.pointer (some ⟨pb,0,none⟩),u8,u9,.pointer (some ⟨qb,0,none⟩),x11,outv,u13,.pointer (some ⟨eb,0,none⟩),x15,x16,x17,x18,u19,u20,u21,u22,u23,u24,u25,u26,u27,u28,u29,u30,u31,u32,u33,u34,u35,u36,u37,u38,u39,u40,u41,u42,u43,u44,u45,u46,u47,u48,u49,u50,u51,u52,u53,u54,u55,u56,u57,u58,u59,u60,u61,u62,u63,u64,u65,u66,u67,u68,u69,u70,u71,u72,u73,u74,x75,x76,x77,x78,x79,x80,x81,u82,u83,x84,x85,x86,x87,x88,x89,u90,u91,x92,x93,x94,x95,x96,x97,x98,x99,x100,x101,x102,x103,x104,x105,x106,x107,x108,x109,x110,x111,x112,x113,x114,x115,u116,u117,x118,u119,u120,u121,u122,u123,u124,u125,u126,u127,u128,u129,u130,u131,u132,u133,u134,u135,u136,u137,u138,u139,u140,u141,u142,u143,u144,u145,u146,u147,u148,u149,u150,u151,u152,u153,u154,u155,u156,u157,u158],[]⟩ wx))
 (hQE:Hid (∀(c:Array Value) (wx:World) (p:Qag) (er:Int),c[6]? = some (.slice none 0 0)→c[7]? = some (.pointer (some ⟨pb,0,none⟩))→c[8]? = some (.int .i64 er)→Qca wx pb #[.int .i64 p.1,.int .i64 p.2.1,.int .i64 p.2.2] 27→Qaa (LdS lb mb ov rv) w0 wx→Qza (ldT F fuel opn2) F opn2 before (((file:Int),d)::rest) ord giv out = .error (p,er)→Q .ret ⟨c,[]⟩ wx)) :
 (QOl 75).wp Tryz.prog Q ⟨#[.pointer (some ⟨lb,0,none⟩),.int .i64 (file:Int),.int .i64 (before:Int),u3,u4,u5,u6,.pointer (some ⟨pb,0,none⟩),u8,u9,.pointer (some ⟨qb,0,none⟩),u11,outv,u13,.pointer (some ⟨eb,0,none⟩),mv0,u16,u17,u18,u19,u20,u21,u22,u23,u24,u25,u26,u27,u28,u29,u30,u31,u32,u33,u34,u35,u36,u37,u38,u39,u40,u41,u42,u43,u44,u45,u46,u47,u48,u49,u50,u51,u52,u53,u54,u55,u56,u57,u58,u59,u60,u61,u62,u63,u64,u65,u66,u67,u68,u69,u70,u71,u72,u73,u74,.bool (d.kind == 6),u76,u77,u78,u79,u80,u81,u82,u83,u84,u85,u86,u87,u88,u89,u90,u91,u92,u93,u94,u95,u96,u97,u98,u99,u100,u101,u102,u103,u104,u105,u106,u107,u108,u109,u110,u111,u112,u113,u114,u115,u116,u117,u118,u119,u120,u121,u122,u123,u124,u125,u126,u127,u128,u129,u130,u131,u132,u133,u134,u135,u136,u137,u138,u139,u140,u141,u142,u143,u144,u145,u146,u147,u148,u149,u150,u151,u152,u153,u154,u155,u156,u157,u158],[]⟩ w:=by
 have jR:Qrb F d.name=(k:Int):=by unfold Qrb;rw[hf.out]
 have ag:=hid (Qsd (go:=ldT F fuel opn2) (F:=F) (opn:=opn2) (before:=before) (d:=((file:Int),d)) (r:=rest) (ord:=ord) (giv:=giv) (out:=out) hk hf.out hc hg.out)
 simp only[QOl,QIi,Tryz.f72,Option.getD_some,reduceIte,Nat.reduceEqDiff]
 have kR:(d.kind == 6)=true:=by simpa using hk
 obtain⟨ov',rv',hL,Kv,gN⟩:=hW.out.ld
 have GU:=QUe lb mb fv ov' rv' F d.name w hL.holds hL.files (by omega)
 rw[jR]at GU
 have MA:=hid GU
 obtain⟨-,-,a2,-⟩:=Qna hE.out
 have ael:=hE.out.lt
 clear GU hk
 go_wp2_with fail
 refine(by exact MA.out:Calls _ _ _ _ _).mono ?_
 rintro e w1 ⟨rfl,GT⟩
 have kJ:=hid (hW.out.new1 GT)
 have Gt:=hid (hL.new GT)
 have Jy:=hid (hE.out.keeps (Qaa.of_fresh GT (fun _=>False)) (fun e=>e))
 have ch:=hid (hM.out.new GT)
 clear hL GT a2 ael
 have MF:=QGd ov' opn2 k w1 (Q3f Gt.out.opn) (by have:=kJ.out.ok.short;omega)
 rw[hc]at MF
 have HC:=hid MF
 obtain⟨oa,oc,rfl⟩:=Qia Gt.out.opn
 obtain⟨l0,l1,l2,l3,lf0,lf1,lf2,lf3,ll⟩:w1.cell? ⟨lb,0,none⟩=some fv∧w1.cell? ⟨lb,1,none⟩=some (.map (some mb))∧w1.cell? ⟨lb,2,none⟩=some (.slice oa opn2.length oc)∧w1.cell? ⟨lb,3,none⟩=some rv'∧w1.frozen? ⟨lb,0,none⟩=false∧w1.frozen? ⟨lb,1,none⟩=false∧w1.frozen? ⟨lb,2,none⟩=false∧w1.frozen? ⟨lb,3,none⟩=false∧lb<w1.heap.size:=⟨Gt.out.holds.cell 0,Gt.out.holds.cell 1,Gt.out.holds.cell 2,Gt.out.holds.cell 3,Gt.out.holds.free 0,Gt.out.holds.free 1,Gt.out.holds.free 2,Gt.out.holds.free 3,Gt.out.holds.lt⟩
 have aj:k<F.length:=QFb hf.out
 clear MF
 go_wp2_with fail
 refine(by exact HC.out:Calls _ _ _ _ _).mono ?_
 rintro e w2 ⟨rfl,rfl⟩
 obtain⟨vL,bL,yd,KK⟩:=Gt.out.look kJ.out.ok k (by omega)
 have jq:=hid KK
 clear KK
 obtain⟨rfl,K6,jT,vH⟩:bL=true∧Qsa w1 base vL l∧l.length≤6000∧∀g,vL.ownBlock=some g→¬(A g∨outv.ownBlock=some g):=by
  rcases jq.out with⟨e1,_⟩|⟨l',e1,e2,e3,e4,e5⟩
  ·rw[hg.out]at e1;cases e1
  ·rw[hg.out]at e1;cases e1;exact⟨e2,e3,e4,e5⟩
 have wv:=hid K6
 have wu:=hid vH
 clear jq K6 vH
 go_wp2_with fail
 exact hQ.out _ _ _ _ _ _ _ _ _ _ _ _ _ _ _ _ _ _ _ _ _ _ _ _ _ _ _ _ _ _ _ _ _ _ _ _ _ _ _ _ _ _ _ _ ord giv l kJ.out wv.out (fun g hg e=>wu.out g hg (.inr e)) jT ag.out
set_option maxRecDepth 100000 in
theorem QNq{Q:Exit→Act→World→Prop}(A:Nat→Prop)(fuel lb mb base pb qb eb before file:Nat)(fv ov rv dv outv mv0 pv:Value)(F:List Qoa)(opn2:List Nat)(ord:List ByteArray)(giv:QBb)(D:List Qwa)(out:List FdT)(d:Qwa)(rest:List FdT)(w0 w:World)(hrec:Hid (QFh fuel))(hF:F.length≤8)(hT:Hid (∀f∈F,f.text.size≤maxLen∧f.name.size≤maxLen))(KN:F.length<opn2.length+fuel)(Hf:0<base)(GM:base≤w0.heap.size)(KP:Hid (QFf w0))(hA:Hid (∀g,A g→g<w0.heap.size))(JW:Hid (∀i,LdS lb mb ov rv i→base≤i))(hk:d.kind=6)(k:Nat)(hf:Hid (Q2b F d.name=some k))(hc:opn2.contains k=false)(hg:Hid (Qkd giv k=none)){u3 u4 u5 u6 u8 u9 u11 u13 u16 u17 u18 u19 u20 u21 u22 u23 u24 u25 u26 u27 u28 u29 u30 u31 u32 u33 u34 u35 u36 u37 u38 u39 u40 u41 u42 u43 u44 u45 u46 u47 u48 u49 u50 u51 u52 u53 u54 u55 u56 u57 u58 u59 u60 u61 u62 u63 u64 u65 u66 u67 u68 u69 u70 u71 u72 u73 u74 u76 u77 u78 u79 u80 u81 u82 u83 u84 u85 u86 u87 u88 u89 u90 u91 u92 u93 u94 u95 u96 u97 u98 u99 u100 u101 u102 u103 u104 u105 u106 u107 u108 u109 u110 u111 u112 u113 u114 u115 u116 u117 u118 u119 u120 u121 u122 u123 u124 u125 u126 u127 u128 u129 u130 u131 u132 u133 u134 u135 u136 u137 u138 u139 u140 u141 u142 u143 u144 u145 u146 u147 u148 u149 u150 u151 u152 u153 u154 u155 u156 u157 u158:Value}
 (hW:Hid (LdW A lb mb base pb qb fv ov rv dv F opn2 (file:Int) D before w0 outv ord giv out w)) (hE:Hid (Qca w eb #[.int .i64 d.kind,.string d.label,.string d.name,pv,.int .i64 (file:Int),.int .i64 d.line,.int .i64 d.col] 34)) (hM:Hid (Qsa w base mv0 [((file:Int),d)])) (JQ:Hid (∀g,mv0.ownBlock=some g→outv.ownBlock≠some g))
 (hQ:Hid (∀(x11 x15 x16 x17 x18 x75 x76 x77 x78 x79 x80 x81 x84 x85 x86 x87 x88 x89 x92 x93 x94 x95 x96 x97 x98 x99 x100 x101 x102 x103 x104 x105 x106 x107 x108 x109 x110 x111 x112 x113 x114 x115 x118:Value) (wx:World) (ord':List ByteArray) (giv':QBb) (m:List FdT),LdW A lb mb base pb qb fv ov rv dv F opn2 (file:Int) D before w0 outv ord' giv' out wx→Qsa wx base x15 m→(∀g,x15.ownBlock=some g→outv.ownBlock≠some g)→m.length≤6000→Qza (ldT F fuel opn2) F opn2 before (((file:Int),d)::rest) ord giv out=(if Qmb before out<m.length then .error (Qef (m.getD (Qmb before out) Q9d),3)else Qza (ldT F fuel opn2) F opn2 before rest ord' giv' (out++m))→Q .normal ⟨#[.pointer (some ⟨lb,0,none⟩),.int .i64 (file:Int),.int .i64 (before:Int),u3,u4,u5,u6,.pointer (some ⟨pb,0,none⟩),u8,u9,.pointer (some ⟨qb,0,none⟩),x11,outv,u13,.pointer (some ⟨eb,0,none⟩),x15,x16,x17,x18,u19,u20,u21,u22,u23,u24,u25,u26,u27,u28,u29,u30,u31,u32,u33,u34,u35,u36,u37,u38,u39,u40,u41,u42,u43,u44,u45,u46,u47,u48,u49,u50,u51,u52,u53,u54,u55,u56,u57,u58,u59,u60,u61,u62,u63,u64,u65,u66,u67,u68,u69,u70,u71,u72,u73,u74,x75,x76,x77,x78,x79,x80,x81,u82,u83,x84,x85,x86,x87,x88,x89,u90,u91,x92,x93,x94,x95,x96,x97,x98,x99,x100,x101,x102,x103,x104,x105,x106,x107,x108,x109,x110,x111,x112,x113,x114,x115,u116,u117,x118,u119,u120,u121,u122,u123,u124,u125,u126,u127,u128,u129,u130,u131,u132,u133,u134,u135,u136,u137,u138,u139,u140,u141,u142,u143,u144,u145,u146,u147,u148,u149,u150,u151,u152,u153,u154,u155,u156,u157,u158],[]⟩ wx))
 (hQE:Hid (∀(c:Array Value) (wx:World) (p:Qag) (er:Int),c[6]? = some (.slice none 0 0)→c[7]? = some (.pointer (some ⟨pb,0,none⟩))→c[8]? = some (.int .i64 er)→Qca wx pb #[.int .i64 p.1,.int .i64 p.2.1,.int .i64 p.2.2] 27→Qaa (LdS lb mb ov rv) w0 wx→Qza (ldT F fuel opn2) F opn2 before (((file:Int),d)::rest) ord giv out = .error (p,er)→Q .ret ⟨c,[]⟩ wx)) :
 (QOl 75).wp Tryz.prog Q ⟨#[.pointer (some ⟨lb,0,none⟩),.int .i64 (file:Int),.int .i64 (before:Int),u3,u4,u5,u6,.pointer (some ⟨pb,0,none⟩),u8,u9,.pointer (some ⟨qb,0,none⟩),u11,outv,u13,.pointer (some ⟨eb,0,none⟩),mv0,u16,u17,u18,u19,u20,u21,u22,u23,u24,u25,u26,u27,u28,u29,u30,u31,u32,u33,u34,u35,u36,u37,u38,u39,u40,u41,u42,u43,u44,u45,u46,u47,u48,u49,u50,u51,u52,u53,u54,u55,u56,u57,u58,u59,u60,u61,u62,u63,u64,u65,u66,u67,u68,u69,u70,u71,u72,u73,u74,.bool (d.kind == 6),u76,u77,u78,u79,u80,u81,u82,u83,u84,u85,u86,u87,u88,u89,u90,u91,u92,u93,u94,u95,u96,u97,u98,u99,u100,u101,u102,u103,u104,u105,u106,u107,u108,u109,u110,u111,u112,u113,u114,u115,u116,u117,u118,u119,u120,u121,u122,u123,u124,u125,u126,u127,u128,u129,u130,u131,u132,u133,u134,u135,u136,u137,u138,u139,u140,u141,u142,u143,u144,u145,u146,u147,u148,u149,u150,u151,u152,u153,u154,u155,u156,u157,u158],[]⟩ w:=by
 have jR:Qrb F d.name=(k:Int):=by unfold Qrb;rw[hf.out]
 have ag:=hid (Q0e (go:=ldT F fuel opn2) (F:=F) (opn:=opn2) (before:=before) (d:=((file:Int),d)) (r:=rest) (ord:=ord) (giv:=giv) (out:=out) hk hf.out hc hg.out)
 simp only[QOl,QIi,Tryz.f72,Option.getD_some,reduceIte,Nat.reduceEqDiff]
 have kR:(d.kind == 6)=true:=by simpa using hk
 obtain⟨ov',rv',hL,Kv,gN⟩:=hW.out.ld
 have GU:=QUe lb mb fv ov' rv' F d.name w hL.holds hL.files (by omega)
 rw[jR]at GU
 have MA:=hid GU
 obtain⟨-,-,a2,-⟩:=Qna hE.out
 have ael:=hE.out.lt
 clear GU hk
 go_wp2_with fail
 refine(by exact MA.out:Calls _ _ _ _ _).mono ?_
 rintro e w1 ⟨rfl,GT⟩
 have kJ:=hid (hW.out.new1 GT)
 have Gt:=hid (hL.new GT)
 have Jy:=hid (hE.out.keeps (Qaa.of_fresh GT (fun _=>False)) (fun e=>e))
 have ch:=hid (hM.out.new GT)
 clear hL GT a2 ael
 have MF:=QGd ov' opn2 k w1 (Q3f Gt.out.opn) (by have:=kJ.out.ok.short;omega)
 rw[hc]at MF
 have HC:=hid MF
 obtain⟨oa,oc,rfl⟩:=Qia Gt.out.opn
 obtain⟨l0,l1,l2,l3,lf0,lf1,lf2,lf3,ll⟩:w1.cell? ⟨lb,0,none⟩=some fv∧w1.cell? ⟨lb,1,none⟩=some (.map (some mb))∧w1.cell? ⟨lb,2,none⟩=some (.slice oa opn2.length oc)∧w1.cell? ⟨lb,3,none⟩=some rv'∧w1.frozen? ⟨lb,0,none⟩=false∧w1.frozen? ⟨lb,1,none⟩=false∧w1.frozen? ⟨lb,2,none⟩=false∧w1.frozen? ⟨lb,3,none⟩=false∧lb<w1.heap.size:=⟨Gt.out.holds.cell 0,Gt.out.holds.cell 1,Gt.out.holds.cell 2,Gt.out.holds.cell 3,Gt.out.holds.free 0,Gt.out.holds.free 1,Gt.out.holds.free 2,Gt.out.holds.free 3,Gt.out.holds.lt⟩
 have aj:k<F.length:=QFb hf.out
 clear MF
 go_wp2_with fail
 refine(by exact HC.out:Calls _ _ _ _ _).mono ?_
 rintro e w2 ⟨rfl,rfl⟩
 obtain⟨vL,bL,yd,KK⟩:=Gt.out.look kJ.out.ok k (by omega)
 have jq:=hid KK
 clear KK
 obtain⟨rfl,rfl⟩:bL=false∧vL = .slice none 0 0:=by
  rcases jq.out with⟨_,e1,e2⟩|⟨l',e1,_⟩
  ·exact⟨e1,e2⟩
  ·rw[hg.out]at e1;cases e1
 clear jq
 have Jm:k ∉ opn2:=fun hm=>by rw[List.contains_iff_mem.2 hm]at hc;cases hc
 obtain⟨va,vc,JW⟩:=kJ.out.row.slice
 subst JW
 have Ga:=kJ.out.len
 have Kd:Qaa (fun i=>base≤i) w0 w1:=kJ.out.keeps.mono (fun i _ hS=>JW.out i hS)
 have KJ:=hrec.out (fun g=>A g∨Value.ownBlock (.slice va out.length vc)=some g) lb mb base fv (.slice oa opn2.length oc) rv' F opn2 ord giv k (before+out.length) w1 Gt.out (fun g hg=>by
  rcases hg with e|e
  ·exact Nat.lt_of_lt_of_le (hA.out g e) kJ.out.keeps.size
  ·obtain⟨_,_,hr,_⟩:=kJ.out.row
   exact(Qpa hr e).1) aj hF hT.out kJ.out.ok Jm hg.out KN Ga Hf (KP.out.keeps Kd (fun e=>by have e2:base≤0:=e;have:0=0:=rfl;omega))
 have lI:=hid KJ
 clear KJ Kd
 go_wp2_with fail
 refine(by exact lI.out:Calls _ _ _ _ _).mono ?_
 rintro e w2 ⟨ga,Gh⟩
 have GR:=Gt.out.pos ga kJ.out.pos
 obtain⟨x0,y0,z0,hq⟩:=kJ.out.tmp
 have aY:=Gt.out.pos ga hq
 obtain⟨b0,b1,b2,g0,g1,g2,gl⟩:=three GR
 obtain⟨q0,q1,q2,i0,i1,i2,il⟩:=three aY
 cases mu:ldT F fuel opn2 ord giv k (before+out.length)with
 | error x=>
  obtain⟨⟨p1,p2,p3⟩,er⟩:=x
  rw[mu]at Gh
  simp only at Gh
  subst Gh
  have fV:=hid (ag.out.trans (by rw[mu]):Qza (ldT F fuel opn2) F opn2 before (((file:Int),d)::rest) ord giv out = .error ((p1,p2,p3),er))
  have her:(er == 0)=false:=by simpa using QMj _ _ _ _ _ _ _ _ _ mu
  have vP:=((aY.set 0 (.int .i64 p1)).set 1 (.int .i64 p2)).set 2 (.int .i64 p3)
  have kq:Qaa (· = qb) w2 (((w2.setCell ⟨qb,0,none⟩ (.int .i64 p1)).setCell ⟨qb,1,none⟩ (.int .i64 p2)).setCell ⟨qb,2,none⟩ (.int .i64 p3)):=(((Qaa.refl (· = qb) w2).setCell (p:=⟨qb,0,none⟩) (.inr rfl) _).setCell (p:=⟨qb,1,none⟩) (.inr rfl) _).setCell (p:=⟨qb,2,none⟩) (.inr rfl) _
  have vO:=GR.keeps kq (fun e=>kJ.out.low.2.2 e)
  have Hs:Qaa (LdS lb mb ov rv) w0 (((w2.setCell ⟨qb,0,none⟩ (.int .i64 p1)).setCell ⟨qb,1,none⟩ (.int .i64 p2)).setCell ⟨qb,2,none⟩ (.int .i64 p3)):=by
   refine(kJ.out.keeps.trans ga ?_).trans kq ?_
   ·rintro i hi (e|e|e|e)
    ·exact .inl e
    ·exact .inr (.inl e)
    ·rcases Kv i e with e2|e2
     ·exact .inr (.inr (.inl e2))
     ·omega
    ·rcases gN i e with e2|e2
     ·exact .inr (.inr (.inr e2))
     ·omega
   ·rintro i hi rfl
    have:=kJ.out.low.2.1
    omega
  have wJ:=hid vP
  have uh:=hid vO
  have kb:=hid Hs
  clear mu vP vO Hs kq GR aY hq ga
  unfold QGb
  go_upto_region 20 with fail
  generalize ((w2.setCell ⟨qb,0,none⟩ (.int .i64 p1)).setCell ⟨qb,1,none⟩ (.int .i64 p2)).setCell ⟨qb,2,none⟩ (.int .i64 p3)=w5 at *
  clear b0 b1 b2 g0 g1 g2 gl q0 q1 q2 i0 i1 i2 il
  obtain⟨b0,b1,b2,g0,g1,g2,gl⟩:=three uh.out
  obtain⟨q0,q1,q2,i0,i1,i2,il⟩:=three wJ.out
  have Hg:=hid (((uh.out.set 0 (.int .i64 p1)).set 1 (.int .i64 p2)).set 2 (.int .i64 p3)).drew
  have JV:=hid ((((kb.out).setCell (p:=⟨pb,0,none⟩) (.inl kJ.out.low.1) (.int .i64 p1)).setCell (p:=⟨pb,1,none⟩) (.inl kJ.out.low.1) (.int .i64 p2)).setCell (p:=⟨pb,2,none⟩) (.inl kJ.out.low.1) (.int .i64 p3)).drew
  go_wp2_with fail
  go_region
  all_goals
   go_wp2_with fail
   exact hQE.out _ _ (p1,p2,p3) er rfl rfl rfl (by exact Hg.out) (by exact JV.out) fV.out
 | ok x=>
  obtain⟨ord2,giv2,l⟩:=x
  rw[mu]at Gh
  obtain⟨v,ov2,rv2,rfl,Hc,qm,mz,G5,G6⟩:=Gh
  have fV:=hid (ag.out.trans (by rw[mu]):Qza (ldT F fuel opn2) F opn2 before (((file:Int),d)::rest) ord giv out=(if Qmb before out<l.length then .error (Qef (l.getD (Qmb before out) Q9d),3)else Qza (ldT F fuel opn2) F opn2 before rest ord2 giv2 (out++l)))
  obtain⟨tj,hlen2⟩:=Qkh F fuel opn2 _ _ _ _ _ _ _ mu kJ.out.ok aj Jm hg.out Ga
  have xL:=hid (kJ.out.turn GM Kv gN Gt.out ga qm tj G5 G6 0 0 0)
  have kq:Qaa (· = qb) w2 (((w2.setCell ⟨qb,0,none⟩ (.int .i64 0)).setCell ⟨qb,1,none⟩ (.int .i64 0)).setCell ⟨qb,2,none⟩ (.int .i64 0)):=(((Qaa.refl (· = qb) w2).setCell (p:=⟨qb,0,none⟩) (.inr rfl) _).setCell (p:=⟨qb,1,none⟩) (.inr rfl) _).setCell (p:=⟨qb,2,none⟩) (.inr rfl) _
  have jV:=hid (Hc.side kq (fun b e=>by cases e;exact⟨_,aY⟩))
  have Mo:=hid (show ∀g,v.ownBlock=some g→Value.ownBlock (.slice va out.length vc)≠some g from fun g hg e=>by
   obtain⟨_,_,hr,_⟩:=kJ.out.row
   have h1:=(Qpa hr e).1
   have h2:=mz g hg
   omega)
  clear mu Hc qm mz G5 G6 kq GR aY hq ga
  unfold QGb
  go_wp2_with fail
  exact hQ.out _ _ _ _ _ _ _ _ _ _ _ _ _ _ _ _ _ _ _ _ _ _ _ _ _ _ _ _ _ _ _ _ _ _ _ _ _ _ _ _ _ _ _ _ ord2 giv2 l xL.out jV.out Mo.out (by omega) fV.out
set_option maxRecDepth 100000 in
theorem Qwp{Q:Exit→Act→World→Prop}(A:Nat→Prop)(fuel lb mb base pb qb eb before file:Nat)(fv ov rv dv outv mv0 pv:Value)(F:List Qoa)(opn2:List Nat)(ord:List ByteArray)(giv:QBb)(D:List Qwa)(out:List FdT)(d:Qwa)(rest:List FdT)(w0 w:World)(hrec:Hid (QFh fuel))(hF:F.length≤8)(hT:Hid (∀f∈F,f.text.size≤maxLen∧f.name.size≤maxLen))(KN:F.length<opn2.length+fuel)(Hf:0<base)(GM:base≤w0.heap.size)(KP:Hid (QFf w0))(hA:Hid (∀g,A g→g<w0.heap.size))(JW:Hid (∀i,LdS lb mb ov rv i→base≤i)){u3 u4 u5 u6 u8 u9 u11 u13 u16 u17 u18 u19 u20 u21 u22 u23 u24 u25 u26 u27 u28 u29 u30 u31 u32 u33 u34 u35 u36 u37 u38 u39 u40 u41 u42 u43 u44 u45 u46 u47 u48 u49 u50 u51 u52 u53 u54 u55 u56 u57 u58 u59 u60 u61 u62 u63 u64 u65 u66 u67 u68 u69 u70 u71 u72 u73 u74 u76 u77 u78 u79 u80 u81 u82 u83 u84 u85 u86 u87 u88 u89 u90 u91 u92 u93 u94 u95 u96 u97 u98 u99 u100 u101 u102 u103 u104 u105 u106 u107 u108 u109 u110 u111 u112 u113 u114 u115 u116 u117 u118 u119 u120 u121 u122 u123 u124 u125 u126 u127 u128 u129 u130 u131 u132 u133 u134 u135 u136 u137 u138 u139 u140 u141 u142 u143 u144 u145 u146 u147 u148 u149 u150 u151 u152 u153 u154 u155 u156 u157 u158:Value}
 (hW:Hid (LdW A lb mb base pb qb fv ov rv dv F opn2 (file:Int) D before w0 outv ord giv out w)) (hE:Hid (Qca w eb #[.int .i64 d.kind,.string d.label,.string d.name,pv,.int .i64 (file:Int),.int .i64 d.line,.int .i64 d.col] 34)) (hM:Hid (Qsa w base mv0 [((file:Int),d)])) (JQ:Hid (∀g,mv0.ownBlock=some g→outv.ownBlock≠some g))
 (hQ:Hid (∀(x11 x15 x16 x17 x18 x75 x76 x77 x78 x79 x80 x81 x84 x85 x86 x87 x88 x89 x92 x93 x94 x95 x96 x97 x98 x99 x100 x101 x102 x103 x104 x105 x106 x107 x108 x109 x110 x111 x112 x113 x114 x115 x118:Value) (wx:World) (ord':List ByteArray) (giv':QBb) (m:List FdT),LdW A lb mb base pb qb fv ov rv dv F opn2 (file:Int) D before w0 outv ord' giv' out wx→Qsa wx base x15 m→(∀g,x15.ownBlock=some g→outv.ownBlock≠some g)→m.length≤6000→Qza (ldT F fuel opn2) F opn2 before (((file:Int),d)::rest) ord giv out=(if Qmb before out<m.length then .error (Qef (m.getD (Qmb before out) Q9d),3)else Qza (ldT F fuel opn2) F opn2 before rest ord' giv' (out++m))→Q .normal ⟨#[.pointer (some ⟨lb,0,none⟩),.int .i64 (file:Int),.int .i64 (before:Int),u3,u4,u5,u6,.pointer (some ⟨pb,0,none⟩),u8,u9,.pointer (some ⟨qb,0,none⟩),x11,outv,u13,.pointer (some ⟨eb,0,none⟩),x15,x16,x17,x18,u19,u20,u21,u22,u23,u24,u25,u26,u27,u28,u29,u30,u31,u32,u33,u34,u35,u36,u37,u38,u39,u40,u41,u42,u43,u44,u45,u46,u47,u48,u49,u50,u51,u52,u53,u54,u55,u56,u57,u58,u59,u60,u61,u62,u63,u64,u65,u66,u67,u68,u69,u70,u71,u72,u73,u74,x75,x76,x77,x78,x79,x80,x81,u82,u83,x84,x85,x86,x87,x88,x89,u90,u91,x92,x93,x94,x95,x96,x97,x98,x99,x100,x101,x102,x103,x104,x105,x106,x107,x108,x109,x110,x111,x112,x113,x114,x115,u116,u117,x118,u119,u120,u121,u122,u123,u124,u125,u126,u127,u128,u129,u130,u131,u132,u133,u134,u135,u136,u137,u138,u139,u140,u141,u142,u143,u144,u145,u146,u147,u148,u149,u150,u151,u152,u153,u154,u155,u156,u157,u158],[]⟩ wx))
 (hQE:Hid (∀(c:Array Value) (wx:World) (p:Qag) (er:Int),c[6]? = some (.slice none 0 0)→c[7]? = some (.pointer (some ⟨pb,0,none⟩))→c[8]? = some (.int .i64 er)→Qca wx pb #[.int .i64 p.1,.int .i64 p.2.1,.int .i64 p.2.2] 27→Qaa (LdS lb mb ov rv) w0 wx→Qza (ldT F fuel opn2) F opn2 before (((file:Int),d)::rest) ord giv out = .error (p,er)→Q .ret ⟨c,[]⟩ wx)) :
 (QOl 75).wp Tryz.prog Q ⟨#[.pointer (some ⟨lb,0,none⟩),.int .i64 (file:Int),.int .i64 (before:Int),u3,u4,u5,u6,.pointer (some ⟨pb,0,none⟩),u8,u9,.pointer (some ⟨qb,0,none⟩),u11,outv,u13,.pointer (some ⟨eb,0,none⟩),mv0,u16,u17,u18,u19,u20,u21,u22,u23,u24,u25,u26,u27,u28,u29,u30,u31,u32,u33,u34,u35,u36,u37,u38,u39,u40,u41,u42,u43,u44,u45,u46,u47,u48,u49,u50,u51,u52,u53,u54,u55,u56,u57,u58,u59,u60,u61,u62,u63,u64,u65,u66,u67,u68,u69,u70,u71,u72,u73,u74,.bool (d.kind == 6),u76,u77,u78,u79,u80,u81,u82,u83,u84,u85,u86,u87,u88,u89,u90,u91,u92,u93,u94,u95,u96,u97,u98,u99,u100,u101,u102,u103,u104,u105,u106,u107,u108,u109,u110,u111,u112,u113,u114,u115,u116,u117,u118,u119,u120,u121,u122,u123,u124,u125,u126,u127,u128,u129,u130,u131,u132,u133,u134,u135,u136,u137,u138,u139,u140,u141,u142,u143,u144,u145,u146,u147,u148,u149,u150,u151,u152,u153,u154,u155,u156,u157,u158],[]⟩ w:=by
 by_cases hk:d.kind=6
 ·cases hf:Q2b F d.name with
  | none=>exact Qxp A fuel lb mb base pb qb eb before file fv ov rv dv outv mv0 pv F opn2 ord giv D out d rest w0 _ hrec hF hT KN Hf GM KP hA JW hk hf hW hE hM JQ hQ hQE
  | some k=>
   cases hc:opn2.contains k with
   | true=>exact Qrm A fuel lb mb base pb qb eb before file fv ov rv dv outv mv0 pv F opn2 ord giv D out d rest w0 _ hrec hF hT KN Hf GM KP hA JW hk k (hid hf) hc hW hE hM JQ hQ hQE
   | false=>
    cases hg:Qkd giv k with
    | some l=>exact QPn A fuel lb mb base pb qb eb before file fv ov rv dv outv mv0 pv F opn2 ord giv D out d rest w0 _ hrec hF hT KN Hf GM KP hA JW hk k (hid hf) hc l (hid hg) hW hE hM JQ hQ hQE
    | none=>exact QNq A fuel lb mb base pb qb eb before file fv ov rv dv outv mv0 pv F opn2 ord giv D out d rest w0 _ hrec hF hT KN Hf GM KP hA JW hk k (hid hf) hc (hid hg) hW hE hM JQ hQ hQE
 ·exact Qtr A fuel lb mb base pb qb eb before file fv ov rv dv outv mv0 pv F opn2 ord giv D out d rest w0 _ hrec hF hT KN Hf GM KP hA JW hk hW hE hM JQ hQ hQE
end Go.Proofs.YtofhcgbihonckaaGreat
