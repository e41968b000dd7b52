/- include: small facts for load's loop (plain and of memory). | include, in plain Lean: what a loading leaves is sound. | include, in plain Lean: what is loaded does not depend on files that are not included, nor on the order of the files. | include, in plain Lean: how long definitions are. | include, in plain Lean: which names texts include. | IncludeAgain, plain: texts without includes, and how many definitions a text has. | Rows of files of one's own. | bringupgrow: Files. | IncludeOthers, plain: a file that nobody includes does not matter. | IncludeAgain, plain: what loading gives. | bringupgrow: label, cell of a document: no word include (made by gdi.py). | bringupgrow: value of a document: which bytes (made by gdi.py). | bringupgrow: Members: which bytes (made by gdi.py). -/
import Derived.Test.YtofhcgbihonckaaGreatY19
import Derived.Test.YtofhcgbihonckaaGreatY20
import Derived.Test.YtofhcgbihonckaaGreatY13
import Derived.Test.YtofhcgbihonckaaGreatY11
import Derived.Test.YtofhcgbihonckaaGreatY6
import Derived.Test.YtofhcgbihonckaaGreatY24
import Derived.Test.YtofhcgbihonckaaGreatY25
import Derived.Test.YtofhcgbihonckaaGreatY18
import Derived.Deep.LoopGhost
import Derived.Test.YtofhcgbihonckaaGreatY22
import Derived.Deep.RegionWith
set_option linter.all false
set_option maxHeartbeats 8000000
namespace Go.Proofs.YtofhcgbihonckaaGreat
open Go.RowKit
theorem Qkh{w:World}{base:Nat}{v:Value}{l:List Nat}(h:w.ownsRow base 3 1 v l.length (l.map fun(n:Nat)=>Value.int .i64 (n:Int))):QNn w v l:=by
 rcases h.2 with⟨rfl,h0⟩|⟨g,cap,cur,rfl,hb,hh,hcap,hm,hs,ht⟩
 ·exact⟨none,0,by rw[h0],by omega,fun h1=>by omega⟩
 ·refine⟨_,cap,rfl,hcap,fun h0=>⟨g,0,rfl,fun i hi=>?_⟩⟩
  rw[Nat.zero_add,h.cellAt i (by omega)]
  simp[hi]
theorem QOc{F:List QFa}{s:ByteArray}{k:Nat}(h:QYb F s=some k):k<F.length:=by
 unfold QYb at h
 rw[List.findIdx?_eq_some_iff_getElem]at h
 exact h.1
theorem QEn(file:Int)(D:List Qra)(i:Nat)(hi:i<D.length):(Qoc file D).drop i=(file,D[i])::(Qoc file D).drop (i+1):=by
 have hl:i<(Qoc file D).length:=by simpa[Qoc]using hi
 rw[List.drop_eq_getElem_cons hl]
 simp[Qoc]
theorem Q9o(file:Int)(D:List Qra):(Qoc file D).drop D.length=[]:=List.drop_eq_nil_of_le (by simp[Qoc])
theorem Qwe{go:List ByteArray→Q4b→Nat→Nat→Lr}{F:List QFa}{opn:List Nat}{before:Nat}{d:FdT}{r:List FdT}{ord:List ByteArray}{giv:Q4b}{out:List FdT}(h:d.2.kind≠6) :
 QAa go F opn before (d::r) ord giv out=if Qhb before out<1 then .error (Qbj ([d].getD (Qhb before out) Qnf),3)else QAa go F opn before r ord giv (out++[d]):=by
 simp only[QAa,if_pos h]
 rfl
theorem Qye{go:List ByteArray→Q4b→Nat→Nat→Lr}{F:List QFa}{opn:List Nat}{before:Nat}{d:FdT}{r:List FdT}{ord:List ByteArray}{giv:Q4b}{out:List FdT}(h:d.2.kind=6)(hf:QYb F d.2.name=none) :
 QAa go F opn before (d::r) ord giv out = .error (Qbj d,4):=by
 simp only[QAa,if_neg (Decidable.not_not.2 h),hf]
theorem Qmd{go:List ByteArray→Q4b→Nat→Nat→Lr}{F:List QFa}{opn:List Nat}{before:Nat}{d:FdT}{r:List FdT}{ord:List ByteArray}{giv:Q4b}{out:List FdT}{k:Nat}(h:d.2.kind=6)(hf:QYb F d.2.name=some k)(hk:opn.contains k=true) :
 QAa go F opn before (d::r) ord giv out = .error (Qbj d,10):=by
 simp only[QAa,if_neg (Decidable.not_not.2 h),hf,if_pos hk]
theorem Q6c{go:List ByteArray→Q4b→Nat→Nat→Lr}{F:List QFa}{opn:List Nat}{before:Nat}{d:FdT}{r:List FdT}{ord:List ByteArray}{giv:Q4b}{out l:List FdT}{k:Nat}(h:d.2.kind=6)(hf:QYb F d.2.name=some k)(hk:opn.contains k=false)(hg:Qkf giv k=some l) :
 QAa go F opn before (d::r) ord giv out=if Qhb before out<l.length then .error (Qbj (l.getD (Qhb before out) Qnf),3)else QAa go F opn before r ord giv (out++l):=by
 simp only[QAa,if_neg (Decidable.not_not.2 h),hf,hk,Bool.false_eq_true,if_false,hg]
theorem Qxe{go:List ByteArray→Q4b→Nat→Nat→Lr}{F:List QFa}{opn:List Nat}{before:Nat}{d:FdT}{r:List FdT}{ord:List ByteArray}{giv:Q4b}{out:List FdT}{k:Nat}(h:d.2.kind=6)(hf:QYb F d.2.name=some k)(hk:opn.contains k=false)(hg:Qkf giv k=none) :
 QAa go F opn before (d::r) ord giv out=match go ord giv k (before+out.length)with
  | .error e=>.error e
  | .ok (ord',giv',l)=>if Qhb before out<l.length then .error (Qbj (l.getD (Qhb before out) Qnf),3)else QAa go F opn before r ord' giv' (out++l):=by
 simp only[QAa,if_neg (Decidable.not_not.2 h),hf,hk,Bool.false_eq_true,if_false,hg]
 rfl
theorem Qmh:∀(n:Nat) (l:List Nat),l.Nodup→(∀k∈l,k<n)→l.length≤n
 | 0,[],_,_=>Nat.le_refl _
 | 0,a::l,_,h=>absurd (h a List.mem_cons_self) (by omega)
 | n+1,l,hd,h=>by
  have h1:=Qmh n (l.erase n) (hd.erase n) (fun k hk=>by
   have h2:=(hd.mem_erase_iff).1 hk
   have:=h k h2.2
   omega)
  by_cases hm:n∈l
  ·rw[List.length_erase_of_mem hm]at h1;omega
  ·rw[List.erase_of_not_mem hm]at h1;omega
theorem Qnm(l:List UInt8)(file:Int):(QTb l file).1.length≤6001:=by
 have h8:=(QTd l file).2.1
 rcases Q5o l file with⟨_,_,hi,⟨ks,e,hp,hk⟩,_⟩|h
 ·have hl:(QTb l file).1.length=ks.length:=by
   have:=congrArg List.length e
   simpa using this
  have h1:=Qmh (Qub l file).1.length ks (hp.imp (fun hab e=>by omega)) (fun k hkm=>by
   have h2:=(hk k hkm).2.2
   rcases Nat.lt_or_ge k (Qub l file).1.length with c|c
   ·exact c
   ·exact absurd (by unfold tkN;rw[List.getD_eq_getElem?_getD,List.getElem?_eq_none c];rfl) h2)
  omega
 ·rcases h with h|h
  ·unfold QTb at h ⊢
   split
   ·simp
   ·split
    ·rename_i h1 _ _ h2
     rw[if_neg h1,h2]at h
     exact absurd rfl h
    ·simp
  ·rw[h];simp
structure Qxd(F:List QFa)(opn:List Nat)(ord:List ByteArray)(giv:Q4b):Prop where
 keys:∃ks:List Nat,giv.map (·.1)=ks.map (fun k:Nat=>(k:Int))∧(ks++opn).Nodup∧∀k∈ks++opn,k<F.length
 len:∀p∈giv,p.2.length≤6000
 ord:ord.length=giv.length+opn.length
section
variable{F:List QFa}{opn:List Nat}{ord:List ByteArray}{giv:Q4b}
theorem Qxd.short(h:Qxd F opn ord giv):giv.length+opn.length≤F.length:=by
 obtain⟨ks,e,hn,hk⟩:=h.keys
 have:=Qmh _ _ hn hk
 have hl:=congrArg List.length e
 simp only[List.length_map,List.length_append]at this hl
 omega
theorem Qgl{k:Nat}(h:Qkf giv k=none):∀p∈giv,p.1≠(k:Int):=by
 intro p hp e
 unfold Qkf at h
 rw[Option.map_eq_none_iff,List.find?_eq_none]at h
 exact h p hp (by simp[e])
theorem Qhl{k:Nat}{l:List FdT}(h:Qkf giv k=some l):∃i,∃h:i<giv.length,giv[i]=((k:Int),l):=by
 unfold Qkf at h
 rw[Option.map_eq_some_iff]at h
 obtain⟨⟨a,b⟩,h1,h2⟩:=h
 have hm:=List.mem_of_find?_eq_some h1
 have hk:=List.find?_some h1
 simp only[decide_eq_true_eq]at hk h2
 obtain⟨i,hi,e⟩:=List.getElem_of_mem hm
 exact⟨i,hi,by rw[e,hk,h2]⟩
theorem Qxd.open1(h:Qxd F opn ord giv){file:Nat}(hf:file<F.length)(hn:file ∉ opn)(hg:Qkf giv file=none)(s:ByteArray):Qxd F (opn++[file]) (ord++[s]) giv:=by
 obtain⟨ks,e,hd,hk⟩:=h.keys
 refine⟨⟨ks,e,?_,?_⟩,h.len,by have:=h.ord;simp only[List.length_append,List.length_cons,List.length_nil];omega⟩
 ·rw[←List.append_assoc,List.nodup_append]
  refine⟨hd,by simp,fun a ha b hb=>?_⟩
  simp only[List.mem_singleton]at hb
  subst hb
  rintro rfl
  rcases List.mem_append.1 ha with hm|hm
  ·have:((a:Nat):Int)∈giv.map (·.1):=by rw[e];exact List.mem_map.2 ⟨a,hm,rfl⟩
   obtain⟨p,hp,e2⟩:=List.mem_map.1 this
   exact Qgl hg p hp e2
  ·exact hn hm
 ·intro k hm
  rw[←List.append_assoc]at hm
  rcases List.mem_append.1 hm with hm|hm
  ·exact hk k hm
  ·simp only[List.mem_singleton]at hm;subst hm;exact hf
theorem Qxd.close1{file:Nat}(h:Qxd F (opn++[file]) ord giv){out:List FdT}(ho:out.length≤6000):Qxd F opn ord (giv++[((file:Int),out)]):=by
 obtain⟨ks,e,hd,hk⟩:=h.keys
 have hp:(ks++[file]++opn).Perm (ks++(opn++[file])):=by
  rw[List.append_assoc]
  exact List.Perm.append_left ks List.perm_append_comm
 refine⟨⟨ks++[file],by simp[e],hp.nodup_iff.2 hd,fun k hm=>hk k (hp.mem_iff.1 hm)⟩,fun p hm=>?_,?_⟩
 ·rcases List.mem_append.1 hm with hm|hm
  ·exact h.len p hm
  ·simp only[List.mem_singleton]at hm;subst hm;exact ho
 ·have:=h.ord
  simp only[List.length_append,List.length_cons,List.length_nil]at this ⊢
  omega
end
def Qjq(F:List QFa)(opn:List Nat)(go:List ByteArray→Q4b→Nat→Nat→Lr):Prop:=
 ∀ord giv k b ord' giv' o,go ord giv k b = .ok (ord',giv',o)→Qxd F opn ord giv→k<F.length→k ∉ opn→Qkf giv k=none→b≤6000→Qxd F opn ord' giv'∧b+o.length≤6000
theorem Qve{F:List QFa}{opn:List Nat}{go:List ByteArray→Q4b→Nat→Nat→Lr}(mP:Qjq F opn go)(before:Nat):∀(r:List FdT) (ord:List ByteArray) (giv:Q4b) (out:List FdT) (ord':List ByteArray) (giv':Q4b) (out':List FdT),
 QAa go F opn before r ord giv out = .ok (ord',giv',out')→Qxd F opn ord giv→before+out.length≤6000→Qxd F opn ord' giv'∧before+out'.length≤6000
 | [],ord,giv,out,ord',giv',out',h,hg,hb=>by
  simp only[QAa,Except.ok.injEq,Prod.mk.injEq]at h
  obtain⟨rfl,rfl,rfl⟩:=h
  exact⟨hg,hb⟩
 | d::r,ord,giv,out,ord',giv',out',h,hg,hb=>by
  by_cases hk:d.2.kind=6
  ·cases hf:QYb F d.2.name with
   | none=>rw[Qye hk hf]at h;cases h
   | some k=>
    cases ho:opn.contains k with
    | true=>rw[Qmd hk hf ho]at h;cases h
    | false=>
     have fD:k ∉ opn:=fun hm=>by rw[List.contains_iff_mem.2 hm]at ho;cases ho
     cases hv:Qkf giv k with
     | some l=>
      rw[Q6c hk hf ho hv]at h
      split at h
      ·cases h
      ·rename_i hr
       exact Qve mP before r _ _ _ _ _ _ h hg (by unfold Qhb at hr;rw[List.length_append];omega)
     | none=>
      rw[Qxe hk hf ho hv]at h
      cases hgo2:go ord giv k (before+out.length)with
      | error e=>rw[hgo2]at h;cases h
      | ok x=>
       obtain⟨o1,g1,l⟩:=x
       rw[hgo2]at h
       simp only at h
       obtain⟨q1,q2⟩:=mP _ _ _ _ _ _ _ hgo2 hg (QOc hf) fD hv hb
       split at h
       ·cases h
       ·exact Qve mP before r _ _ _ _ _ _ h q1 (by rw[List.length_append];omega)
  ·rw[Qwe hk]at h
   split at h
   ·cases h
   ·rename_i hr
    exact Qve mP before r _ _ _ _ _ _ h hg (by unfold Qhb at hr;rw[List.length_append,List.length_singleton];omega)
theorem Qrl(F:List QFa):∀(f:Nat) (opn:List Nat),Qjq F opn (ldT F f opn)
 | 0,opn=>fun ord giv k b ord' giv' o h=>by simp only[ldT]at h;cases h
 | f+1,opn=>fun ord giv k b ord' giv' o h hg hk hn hv hb=>by
  simp only[ldT]at h
  split at h
  ·cases h
  ·cases hl:QAa (ldT F f (opn++[k])) F (opn++[k]) b (Qoc k (QTb (F.getD k ⟨⟨#[]⟩,⟨#[]⟩⟩).text.data.toList k).1) (ord++[(F.getD k ⟨⟨#[]⟩,⟨#[]⟩⟩).name]) giv []with
   | error e=>rw[hl]at h;cases h
   | ok x=>
    obtain⟨o1,g1,l⟩:=x
    rw[hl]at h
    simp only[Except.ok.injEq,Prod.mk.injEq]at h
    obtain⟨rfl,rfl,rfl⟩:=h
    obtain⟨q1,q2⟩:=Qve (Qrl F f (opn++[k])) b _ _ _ _ _ _ _ hl (hg.open1 hk hn hv _) (by simpa using hb)
    exact⟨q1.close1 (by omega),q2⟩
theorem QPd{F:List QFa}{opn:List Nat}{go:List ByteArray→Q4b→Nat→Nat→Lr}(mP:∀ord giv k b p er,go ord giv k b = .error (p,er)→er≠0)(before:Nat):∀(r:List FdT) (ord:List ByteArray) (giv:Q4b) (out:List FdT) (p:QOk) (er:Int),
 QAa go F opn before r ord giv out = .error (p,er)→er≠0
 | [],ord,giv,out,p,er,h=>by simp only[QAa]at h;cases h
 | d::r,ord,giv,out,p,er,h=>by
  by_cases hk:d.2.kind=6
  ·cases hf:QYb F d.2.name with
   | none=>rw[Qye hk hf]at h;cases h;decide
   | some k=>
    cases ho:opn.contains k with
    | true=>rw[Qmd hk hf ho]at h;cases h;decide
    | false=>
     cases hv:Qkf giv k with
     | some l=>
      rw[Q6c hk hf ho hv]at h
      split at h
      ·cases h;decide
      ·exact QPd mP before r _ _ _ _ _ h
     | none=>
      rw[Qxe hk hf ho hv]at h
      cases hgo2:go ord giv k (before+out.length)with
      | error e=>rw[hgo2]at h;cases h;exact mP _ _ _ _ _ _ hgo2
      | ok x=>
       rw[hgo2]at h
       simp only at h
       split at h
       ·cases h;decide
       ·exact QPd mP before r _ _ _ _ _ h
  ·rw[Qwe hk]at h
   split at h
   ·cases h;decide
   ·exact QPd mP before r _ _ _ _ _ h
theorem Q5i(F:List QFa):∀(f:Nat) (opn:List Nat) (ord:List ByteArray) (giv:Q4b) (k b:Nat) (p:QOk) (er:Int),ldT F f opn ord giv k b = .error (p,er)→er≠0
 | 0,opn,ord,giv,k,b,p,er,h=>by simp only[ldT]at h;cases h;decide
 | f+1,opn,ord,giv,k,b,p,er,h=>by
  simp only[ldT]at h
  split at h
  ·cases h;assumption
  ·cases hl:QAa (ldT F f (opn++[k])) F (opn++[k]) b (Qoc k (QTb (F.getD k ⟨⟨#[]⟩,⟨#[]⟩⟩).text.data.toList k).1) (ord++[(F.getD k ⟨⟨#[]⟩,⟨#[]⟩⟩).name]) giv []with
   | error e=>
    rw[hl]at h
    cases h
    exact QPd (Q5i F f (opn++[k])) b _ _ _ _ _ _ hl
   | ok x=>rw[hl]at h;cases h
section
variable(c:Nat)(F F':List QFa)
variable{F F'}
end
theorem Q9k:∀(F seen:List QFa),((seen++F).map QFa.name).Nodup→QRk seen F=false
 | [],_,_=>rfl
 | f::F,seen,h=>by
  simp only[QRk,Bool.or_eq_false_iff]
  constructor
  ·rw[List.any_eq_false]
   intro g hg e
   simp only[decide_eq_true_eq]at e
   rw[List.map_append,List.nodup_append]at h
   exact h.2.2 g.name (List.mem_map.2 ⟨g,hg,rfl⟩) f.name (by simp) e
  ·exact Q9k F (seen++[f]) (by simpa using h)
theorem Q7h(F:List QFa):Qxd F [] [] []:=⟨⟨[],rfl,by simp,by simp⟩,by simp,rfl⟩
section
variable(L:List Tok)
def OkD(d:Qra):Prop:=d.parts.length≤6002∧∀p∈d.parts,p.cells.length≤6002
theorem OkD.nil{d:Qra}(h:d.parts=[]):OkD d:=⟨by rw[h];simp,fun p hp=>by rw[h]at hp;cases hp⟩
theorem QSe:∀(n i:Nat) (acc:List Qzb) (j:Nat) (cs:List Qzb),QOb L n i acc = .ok (j,cs)→cs.length≤acc.length+n
 | 0,i,acc,j,cs,h=>by cases h
 | n+1,i,acc,j,cs,h=>by
  rw[QOb]at h
  split at h
  ·cases h;omega
  ·split at h
   ·split at h
    ·have:=QSe n _ _ _ _ h;simp at this;omega
    ·cases h
   ·split at h
    ·cases h
    ·have:=QSe n _ _ _ _ h;simp at this;omega
theorem QIl{i j:Nat}{p:QRa}(h:Qnb L i = .ok (j,p)):p.cells.length≤Q6a L:=by
 unfold Qnb at h
 split at h
 ·cases h;simp
 ·split at h
  ·split at h
   ·cases h;simp
   ·cases h
  ·split at h
   ·split at h
    ·rename_i hc;cases h
     have:=QSe L _ _ _ _ _ hc
     simpa using this
    ·cases h
   ·split at h
    ·split at h
     ·cases h;simp
     ·cases h
    ·cases h
theorem QMg:∀(n:Nat) (sep:List UInt8) (i:Nat) (acc:List QRa) (j:Nat) (ps:List QRa),Qgb L n sep i acc = .ok (j,ps)→(∀p∈acc,p.cells.length≤Q6a L)→ps.length≤acc.length+n∧∀p∈ps,p.cells.length≤Q6a L
 | 0,sep,i,acc,j,ps,h,_=>by cases h
 | n+1,sep,i,acc,j,ps,h,ha=>by
  rw[Qgb]at h
  split at h
  ·cases h1:Qnb L (i+1)with
   | error e=>rw[h1]at h;cases h
   | ok q=>
    rw[h1]at h
    obtain⟨m,p⟩:=q
    have h2:=QIl L h1
    obtain⟨h3,h4⟩:=QMg n _ _ _ _ _ h (fun x hx=>by
     rcases List.mem_append.1 hx with hx|hx
     ·exact ha x hx
     ·simp only[List.mem_singleton]at hx;subst hx;exact h2)
    exact⟨by simp at h3;omega,h4⟩
  ·cases h;exact⟨by omega,ha⟩
theorem Qoe{kind what:Int}{before:List UInt8}{right:List UInt8→Bool}{i j:Nat}{ds:List Qra}(h:Qhd L kind what before right i = .ok (j,ds)):∃d,ds=[d]∧d.parts=[]:=by
 unfold Qhd at h
 cases h1:Qha L what right (i+1)with
 | error e=>rw[h1]at h;cases h
 | ok m=>
  rw[h1]at h
  simp only at h
  cases h2:Q1a L [59] m with
  | error e=>rw[h2]at h;cases h
  | ok q=>
   rw[h2]at h
   cases h
   exact⟨_,rfl,rfl⟩
variable(hL:L.length≤6001)
include hL
theorem Qrd:∀(n:Nat) (md:Md) (i j:Nat) (ds:List Qra),Q7a L n md i = .ok (j,ds)→(match md with
 | .body d _=>OkD d
 | .mems _ acc=>∀d∈acc,OkD d
 | _=>True)→∀d∈ds,OkD d
 | 0,md,i,j,ds,h,_=>by cases md <;> cases h
 | n+1,.body d dp,i,j,ds,h,hd=>by
  rw[Q7a]at h
  split at h
  ·split at h
   ·cases h
   ·exact Qrd n (.mems dp [d]) _ _ _ h (fun x hx=>by simp only[List.mem_singleton]at hx;subst hx;exact hd)
  ·cases h
 | n+1,.mems dp acc,i,j,ds,h,hd=>by
  rw[Q7a]at h
  split at h
  ·cases h
   intro x hx
   rcases List.mem_append.1 hx with hx|hx
   ·exact hd x hx
   ·simp only[List.mem_singleton]at hx;subst hx;exact .nil rfl
  ·cases h1:Q7a L n (.member dp) i with
   | error e=>rw[h1]at h;cases h
   | ok q=>
    rw[h1]at h
    obtain⟨m,xs⟩:=q
    have h2:=Qrd n (.member dp) _ _ _ h1 trivial
    refine Qrd n (.mems dp (acc++xs)) _ _ _ h (fun x hx=>?_)
    rcases List.mem_append.1 hx with hx|hx
    ·exact hd x hx
    ·exact h2 x hx
 | n+1,.member dp,i,j,ds,h,_=>by
  rw[Q7a]at h
  split at h
  ·cases h1:Qha L 5 Qna i with
   | error e=>rw[h1]at h;cases h
   | ok a=>
    rw[h1]at h
    simp only at h
    cases h2:Qha L 1 QUa a with
    | error e=>rw[h2]at h;cases h
    | ok b=>
     rw[h2]at h
     simp only at h
     cases h3:Q7a L n (.body ⟨1,txN L i,txN L a,[],(tkN L i).line,(tkN L i).col⟩ (dp+1)) b with
     | error e=>rw[h3]at h;cases h
     | ok q=>
      rw[h3]at h
      obtain⟨m,xs⟩:=q
      simp only at h
      have h6:=Qrd n _ _ _ _ h3 (.nil rfl)
      cases h4:Q1a L [59] m with
      | error e=>rw[h4]at h;cases h
      | ok q=>rw[h4]at h;cases h;exact h6
  ·split at h
   ·cases h1:Q7a L n (.named dp) i with
    | error e=>rw[h1]at h;cases h
    | ok q=>
     rw[h1]at h
     obtain⟨m,xs⟩:=q
     simp only at h
     have h6:=Qrd n _ _ _ _ h1 trivial
     cases h4:Q1a L [59] m with
     | error e=>rw[h4]at h;cases h
     | ok q=>rw[h4]at h;cases h;exact h6
   ·split at h
    ·obtain⟨d,rfl,a3⟩:=Qoe L h
     intro x hx
     simp only[List.mem_singleton]at hx;subst hx;exact .nil a3
    ·split at h
     ·obtain⟨d,rfl,a3⟩:=Qoe L h
      intro x hx
      simp only[List.mem_singleton]at hx;subst hx;exact .nil a3
     ·cases h
 | n+1,.named dp,i,j,ds,h,_=>by
  rw[Q7a]at h
  split at h
  ·split at h
   ·exact Qrd n _ _ _ _ h (.nil rfl)
   ·cases h
  ·split at h
   ·cases h1:Qgb L (Q6a L) [61] (i+1) []with
    | error e=>rw[h1]at h;cases h
    | ok q=>
     rw[h1]at h
     obtain⟨m,ps⟩:=q
     cases h
     intro x hx
     simp only[List.mem_singleton]at hx;subst hx
     have h5:=QMg L _ _ _ _ _ _ h1 (fun x hx=>by cases hx)
     have hf:Q6a L≤6002:=by unfold Q6a;omega
     exact⟨by have:=h5.1;simp at this;show ps.length≤6002;omega,fun p hp=>Nat.le_trans (h5.2 p hp) hf⟩
   ·cases h
theorem Q6g{d:Qra}{i j:Nat}{ds:List Qra}(h:QRi L d i = .ok (j,ds))(hd:OkD d):∀x∈ds,OkD x:=by
 unfold QRi at h
 cases h1:Q7a L (Q8b L) (.body d 0) i with
 | error e=>rw[h1]at h;cases h
 | ok q=>
  rw[h1]at h
  obtain⟨m,xs⟩:=q
  simp only at h
  have h6:=Qrd L hL _ _ _ _ _ h1 hd
  cases h4:Q1a L [59] m with
  | error e=>rw[h4]at h;cases h
  | ok q=>rw[h4]at h;cases h;exact h6
theorem Qdp{i j:Nat}{ds:List Qra}(h:Qig L i = .ok (j,ds)):∀d∈ds,OkD d:=by
 unfold Qig at h
 split at h
 ·cases h1:Qha L 5 Qna i with
  | error e=>rw[h1]at h;cases h
  | ok a=>
   rw[h1]at h
   simp only at h
   cases h2:Q1a L [47] a with
   | error e=>rw[h2]at h;cases h
   | ok b=>rw[h2]at h;exact Q6g L hL h (.nil rfl)
 ·split at h
  ·exact Q6g L hL h (.nil rfl)
  ·split at h
   ·cases h1:Qha L 6 Qna i with
    | error e=>rw[h1]at h;cases h
    | ok a=>rw[h1]at h;exact Q6g L hL h (.nil rfl)
   ·split at h
    ·obtain⟨d,rfl,a3⟩:=Qoe L h
     intro x hx
     simp only[List.mem_singleton]at hx;subst hx;exact .nil a3
    ·split at h
     ·obtain⟨d,rfl,a3⟩:=Qoe L h
      intro x hx
      simp only[List.mem_singleton]at hx;subst hx;exact .nil a3
     ·cases h
theorem Qbk:∀(n i:Nat) (acc D:List Qra),QJd L n i acc = .ok D→(∀d∈acc,OkD d)→∀d∈D,OkD d
 | 0,i,acc,D,h,_=>by cases h
 | n+1,i,acc,D,h,ha=>by
  rw[QJd]at h
  split at h
  ·cases h;exact ha
  ·cases h1:Qig L i with
   | error e=>rw[h1]at h;cases h
   | ok q=>
    rw[h1]at h
    obtain⟨j,ds⟩:=q
    refine Qbk n _ _ _ h (fun d hd=>?_)
    rcases List.mem_append.1 hd with hd|hd
    ·exact ha d hd
    ·exact Qdp L hL h1 d hd
end
theorem Qlm(l:List UInt8)(file:Int):∀d∈(QTb l file).1,OkD d:=by
 intro d hd
 unfold QTb at hd
 split at hd
 ·cases hd
 ·split at hd
  ·rename_i hD;exact Qbk _ (QTd l file).2.1 _ _ _ _ hD (fun d hd=>by cases hd) d hd
  ·cases hd
section
variable(P:FdT→Prop){F:List QFa}
theorem QOd{opn:List Nat}{go:List ByteArray→Q4b→Nat→Nat→Lr}(mP:∀ord giv k b ord' giv' o,go ord giv k b = .ok (ord',giv',o)→k<F.length→(∀p∈giv,∀x∈p.2,P x)→(∀p∈giv',∀x∈p.2,P x)∧∀x∈o,P x)(before:Nat):∀(r:List FdT) (ord:List ByteArray) (giv:Q4b) (out:List FdT) (ord':List ByteArray) (giv':Q4b) (out':List FdT),
 QAa go F opn before r ord giv out = .ok (ord',giv',out')→(∀x∈r,P x)→(∀p∈giv,∀x∈p.2,P x)→(∀x∈out,P x)→(∀p∈giv',∀x∈p.2,P x)∧∀x∈out',P x
 | [],ord,giv,out,ord',giv',out',h,_,hg,ho=>by
  simp only[QAa,Except.ok.injEq,Prod.mk.injEq]at h
  obtain⟨rfl,rfl,rfl⟩:=h
  exact⟨hg,ho⟩
 | d::r,ord,giv,out,ord',giv',out',h,hr,hg,ho=>by
  have hd:=hr d List.mem_cons_self
  have hr':=fun x hx=>hr x (List.mem_cons_of_mem _ hx)
  have My:∀m:List FdT,(∀x∈m,P x)→∀x∈out++m,P x:=fun m hm x hx=>by
   rcases List.mem_append.1 hx with hx|hx
   ·exact ho x hx
   ·exact hm x hx
  by_cases hk:d.2.kind=6
  ·cases hf:QYb F d.2.name with
   | none=>rw[Qye hk hf]at h;cases h
   | some k=>
    cases hop:opn.contains k with
    | true=>rw[Qmd hk hf hop]at h;cases h
    | false=>
     cases hv:Qkf giv k with
     | some l=>
      rw[Q6c hk hf hop hv]at h
      split at h
      ·cases h
      ·obtain⟨i,hi,e⟩:=Qhl hv
       exact QOd mP before r _ _ _ _ _ _ h hr' hg (My l (fun x hx=>hg _ (List.getElem_mem hi) x (by rw[e];exact hx)))
     | none=>
      rw[Qxe hk hf hop hv]at h
      cases hgo2:go ord giv k (before+out.length)with
      | error e=>rw[hgo2]at h;cases h
      | ok x=>
       obtain⟨o1,g1,l⟩:=x
       rw[hgo2]at h
       simp only at h
       obtain⟨q1,q2⟩:=mP _ _ _ _ _ _ _ hgo2 (QOc hf) hg
       split at h
       ·cases h
       ·exact QOd mP before r _ _ _ _ _ _ h hr' q1 (My l q2)
  ·rw[Qwe hk]at h
   split at h
   ·cases h
   ·exact QOd mP before r _ _ _ _ _ _ h hr' hg (My [d] (fun x hx=>by simp only[List.mem_singleton]at hx;subst hx;exact hd))
theorem Qql(hs:∀k<F.length,∀d∈(QTb (F.getD k ⟨⟨#[]⟩,⟨#[]⟩⟩).text.data.toList k).1,P ((k:Int),d)):∀(f:Nat) (opn:List Nat) (ord:List ByteArray) (giv:Q4b) (k b:Nat) (ord':List ByteArray) (giv':Q4b) (o:List FdT),ldT F f opn ord giv k b = .ok (ord',giv',o)→k<F.length→(∀p∈giv,∀x∈p.2,P x)→(∀p∈giv',∀x∈p.2,P x)∧∀x∈o,P x
 | 0,opn,ord,giv,k,b,ord',giv',o,h,_,_=>by simp only[ldT]at h;cases h
 | f+1,opn,ord,giv,k,b,ord',giv',o,h,hk,hg=>by
  simp only[ldT]at h
  split at h
  ·cases h
  ·cases hl:QAa (ldT F f (opn++[k])) F (opn++[k]) b (Qoc k (QTb (F.getD k ⟨⟨#[]⟩,⟨#[]⟩⟩).text.data.toList k).1) (ord++[(F.getD k ⟨⟨#[]⟩,⟨#[]⟩⟩).name]) giv []with
   | error e=>rw[hl]at h;cases h
   | ok x=>
    obtain⟨o1,g1,l⟩:=x
    rw[hl]at h
    simp only[Except.ok.injEq,Prod.mk.injEq]at h
    obtain⟨rfl,rfl,rfl⟩:=h
    obtain⟨q1,q2⟩:=QOd P (Qql hs f (opn++[k])) b _ _ _ _ _ _ _ hl (fun x hx=>by
     obtain⟨d,hd,rfl⟩:=List.mem_map.1 hx
     exact hs k hk d hd) hg (fun x hx=>by cases hx)
    refine⟨fun p hp=>?_,q2⟩
    rcases List.mem_append.1 hp with hp|hp
    ·exact q1 p hp
    ·simp only[List.mem_singleton]at hp;subst hp;exact q2
end
theorem QQm{F:List QFa}{m:ByteArray}(P:FdT→Prop)(hs:∀k<F.length,∀d∈(QTb (F.getD k ⟨⟨#[]⟩,⟨#[]⟩⟩).text.data.toList k).1,P ((k:Int),d)){ord:List ByteArray}{giv:Q4b}{out:List FdT}(h:Qld F m = .ok (ord,giv,out)):∀x∈out,P x:=by
 unfold Qld at h
 split at h
 ·cases h
 ·split at h
  ·cases h
  ·split at h
   ·cases h
   ·rename_i k hk
    exact(Qql P hs _ _ _ _ _ _ _ _ _ h (QOc hk) (fun p hp=>by cases hp)).2
theorem QSm{F:List QFa}{m:ByteArray}{ord:List ByteArray}{giv:Q4b}{out:List FdT}(h:Qld F m = .ok (ord,giv,out)):out.length≤6000∧∀x∈out,OkD x.2:=by
 refine⟨?_,QQm (fun x=>OkD x.2) (fun k _ d hd=>Qlm _ _ d hd) h⟩
 unfold Qld at h
 split at h
 ·cases h
 ·split at h
  ·cases h
  ·split at h
   ·cases h
   ·rename_i k hk
    have:=(Qrl F _ [] [] [] k 0 _ _ _ h (Q7h F) (QOc hk) (by simp) rfl (by omega)).2
    omega
section
variable(L:List Tok)
theorem QFc:∀(n:Nat) (md:Md) (i j:Nat) (ds:List Qra),Q7a L n md i = .ok (j,ds)→(match md with
 | .body d _=>d.kind≠6
 | .mems _ acc=>∀d∈acc,d.kind≠6
 | _=>True)→∀d∈ds,d.kind≠6
 | 0,md,i,j,ds,h,_=>by cases md <;> cases h
 | n+1,.body d dp,i,j,ds,h,hd=>by
  rw[Q7a]at h
  split at h
  ·split at h
   ·cases h
   ·exact QFc n (.mems dp [d]) _ _ _ h (fun x hx=>by simp only[List.mem_singleton]at hx;subst hx;exact hd)
  ·cases h
 | n+1,.mems dp acc,i,j,ds,h,hd=>by
  rw[Q7a]at h
  split at h
  ·cases h
   intro x hx
   rcases List.mem_append.1 hx with hx|hx
   ·exact hd x hx
   ·simp only[List.mem_singleton]at hx;subst hx;simp
  ·cases h1:Q7a L n (.member dp) i with
   | error e=>rw[h1]at h;cases h
   | ok q=>
    rw[h1]at h
    obtain⟨m,xs⟩:=q
    have h2:=QFc n (.member dp) _ _ _ h1 trivial
    refine QFc n (.mems dp (acc++xs)) _ _ _ h (fun x hx=>?_)
    rcases List.mem_append.1 hx with hx|hx
    ·exact hd x hx
    ·exact h2 x hx
 | n+1,.member dp,i,j,ds,h,_=>by
  rw[Q7a]at h
  split at h
  ·cases h1:Qha L 5 Qna i with
   | error e=>rw[h1]at h;cases h
   | ok a=>
    rw[h1]at h
    simp only at h
    cases h2:Qha L 1 QUa a with
    | error e=>rw[h2]at h;cases h
    | ok b=>
     rw[h2]at h
     simp only at h
     cases h3:Q7a L n (.body ⟨1,txN L i,txN L a,[],(tkN L i).line,(tkN L i).col⟩ (dp+1)) b with
     | error e=>rw[h3]at h;cases h
     | ok q=>
      rw[h3]at h
      obtain⟨m,xs⟩:=q
      simp only at h
      have h6:=QFc n _ _ _ _ h3 (by simp)
      cases h4:Q1a L [59] m with
      | error e=>rw[h4]at h;cases h
      | ok q=>rw[h4]at h;cases h;exact h6
  ·split at h
   ·cases h1:Q7a L n (.named dp) i with
    | error e=>rw[h1]at h;cases h
    | ok q=>
     rw[h1]at h
     obtain⟨m,xs⟩:=q
     simp only at h
     have h6:=QFc n _ _ _ _ h1 trivial
     cases h4:Q1a L [59] m with
     | error e=>rw[h4]at h;cases h
     | ok q=>rw[h4]at h;cases h;exact h6
   ·split at h
    ·rename_i ko
     obtain⟨_,_,d,rfl,a3⟩:=QLf h (QZc ko (by decide))
     intro x hx
     simp only[List.mem_singleton]at hx;subst hx;rw[a3];decide
    ·split at h
     ·rename_i ko
      obtain⟨_,_,d,rfl,a3⟩:=QLf h (QZc ko (by decide))
      intro x hx
      simp only[List.mem_singleton]at hx;subst hx;rw[a3];decide
     ·cases h
 | n+1,.named dp,i,j,ds,h,_=>by
  rw[Q7a]at h
  split at h
  ·split at h
   ·exact QFc n _ _ _ _ h (by simp)
   ·cases h
  ·split at h
   ·cases h1:Qgb L (Q6a L) [61] (i+1) []with
    | error e=>rw[h1]at h;cases h
    | ok q=>
     rw[h1]at h
     obtain⟨m,ps⟩:=q
     cases h
     intro x hx
     simp only[List.mem_singleton]at hx;subst hx;simp
   ·cases h
theorem QPf{d:Qra}{i j:Nat}{ds:List Qra}(h:QRi L d i = .ok (j,ds))(hd:d.kind≠6):∀x∈ds,x.kind≠6:=by
 unfold QRi at h
 cases h1:Q7a L (Q8b L) (.body d 0) i with
 | error e=>rw[h1]at h;cases h
 | ok q=>
  rw[h1]at h
  obtain⟨m,xs⟩:=q
  simp only at h
  have h6:=QFc L _ _ _ _ _ h1 hd
  cases h4:Q1a L [59] m with
  | error e=>rw[h4]at h;cases h
  | ok q=>rw[h4]at h;cases h;exact h6
end
def hdI:List UInt8→Bool
 | []=>true
 | c::_=>decide (c≠105)
def noJ:List UInt8→Bool
 | []=>true
 | c::r=>(decide (c≠47) || hdI r) && noJ r
theorem QDl:∀(a b:List UInt8),noJ a=true→noJ b=true→hdI b=true→noJ (a++b)=true
 | [],_,_,h,_=>h
 | [c],b,_,hb,hh=>by
  simp only[noJ,List.cons_append,List.nil_append,hh,hb,Bool.or_true,Bool.and_true]
 | c::d::q,b,h,hb,hh=>by
  simp only[noJ,List.cons_append,Bool.and_eq_true]at h ⊢
  exact⟨h.1,by simpa only[noJ,List.cons_append,Bool.and_eq_true]using QDl (d::q) b (by simp only[noJ,Bool.and_eq_true];exact h.2) hb hh⟩
theorem Qlo:∀(a b:List UInt8),hdI a=true→hdI b=true→hdI (a++b)=true
 | [],_,_,h=>h
 | _::_,_,h,_=>h
theorem Qlh:∀(n:Nat) (l:List UInt8),noJ l=true→noJ (l.drop n)=true
 | 0,_,h=>h
 | _+1,[],h=>h
 | n+1,c::r,h=>Qlh n r (by simp only[noJ,Bool.and_eq_true]at h;exact h.2)
theorem QJf(n:Nat)(l:List UInt8):QBg (l.drop n)≤QBg l:=(List.drop_sublist n l).countP_le
theorem QXm{l:List UInt8}(hk:(Qya l).1.kind=7):∃r,l=47::r∧(Qya l).1.text.head? = r.head?:=by
 cases l with
 | nil=>exact absurd hk (by decide)
 | cons c r=>
  have Hf:∀(n:Nat) (x:List UInt8),(if n > 0 then((⟨4,x,0,0,0⟩:Tok),n,(0:Int))else(⟨0,[],0,0,0⟩,0,20)).1.kind≠7:=by
   intro n x
   split <;> simp
  have hc:Qya (c::r)=(let sg:Tok × Nat × Int:=if QHb (c::r) > 0 then(⟨4,(c::r).take (QHb (c::r)),0,0,0⟩,QHb (c::r),0)else(⟨0,[],0,0,0⟩,0,20)
   if Qja (c.toNat:Int)=true∨(c.toNat:Int)=95∨(c.toNat:Int)=35 then
    let n:=QSa Q2a (c::r)
    if n=(c::r).length∨((c::r).getD n 0).toNat≠58 then(⟨1,(c::r).take n,0,0,0⟩,n,0)
    else if Qaf QIa ((c::r).take n)=true then(⟨5,(c::r).take n,0,0,0⟩,n+1,0)else(⟨0,[],0,0,0⟩,0,6)
   else if QOa (c.toNat:Int)=true then
    let n:=QSa QIa (c::r)
    (⟨2,[],(Q5d ((c::r).take n)).1,0,0⟩,n,(Q5d ((c::r).take n)).2)
   else if (c.toNat:Int)=34 then(⟨3,(qtA r.length.succ r [] 1).1,0,0,0⟩,(qtA r.length.succ r [] 1).2.1,(qtA r.length.succ r [] 1).2.2)
   else if (c.toNat:Int)=38∧1<(c::r).length∧(Qja ((c::r).getD 1 0).toNat=true∨((c::r).getD 1 0).toNat=95)then
    let n:=QSa QIa ((c::r).drop 1)+1
    (⟨6,((c::r).take n).drop 1,0,0,0⟩,n,0)
   else if (c.toNat:Int)=47 then
    let n:=QSa QQa ((c::r).drop 1)
    if n > 0∧n+1<(c::r).length∧((c::r).getD (n+1) 0).toNat=47 then(⟨7,((c::r).take (n+1)).drop 1,0,0,0⟩,n+2,0)else sg
   else sg):=rfl
  rw[hc]at hk ⊢
  clear hc
  simp only at hk ⊢
  by_cases h1:Qja (c.toNat:Int)=true∨(c.toNat:Int)=95∨(c.toNat:Int)=35
  ·exfalso
   rw[if_pos h1]at hk
   split at hk
   ·cases hk
   ·split at hk <;> cases hk
  ·rw[if_neg h1]at hk ⊢
   by_cases h2:QOa (c.toNat:Int)=true
   ·exfalso;rw[if_pos h2]at hk;cases hk
   ·rw[if_neg h2]at hk ⊢
    by_cases h3:(c.toNat:Int)=34
    ·exfalso;rw[if_pos h3]at hk;cases hk
    ·rw[if_neg h3]at hk ⊢
     split at hk
     ·cases hk
     ·rename_i h4
      rw[if_neg h4]
      by_cases h5:(c.toNat:Int)=47
      ·rw[if_pos h5]at hk ⊢
       have e:c=47:=UInt8.toNat_inj.1 (by show c.toNat=47;omega)
       split at hk
       ·rename_i h6
        rw[if_pos h6]
        refine⟨r,by rw[e],?_⟩
        simp only[List.drop_succ_cons,List.drop_zero,List.take_succ_cons]at h6 ⊢
        obtain⟨n,hn⟩:∃n,QSa QQa r=n+1:=⟨QSa QQa r-1,by omega⟩
        rw[hn]
        cases r <;> rfl
       ·exact absurd hk (Hf _ _)
      ·rw[if_neg h5]at hk
       exact absurd hk (Hf _ _)
theorem QZm{l:List UInt8}(hk:(Qya l).1.kind=4):0<QHb l∧(Qya l).1.text=l.take (QHb l)∧(Qya l).2.1=QHb l:=by
 have hs:∀{x:List UInt8} {n:Nat},(if n > 0 then((⟨4,x,0,0,0⟩:Tok),n,(0:Int))else(⟨0,[],0,0,0⟩,0,20)).1.kind=4→0<n∧(if n > 0 then((⟨4,x,0,0,0⟩:Tok),n,(0:Int))else(⟨0,[],0,0,0⟩,0,20)).1.text=x∧(if n > 0 then((⟨4,x,0,0,0⟩:Tok),n,(0:Int))else(⟨0,[],0,0,0⟩,0,20)).2.1=n:=by
  intro x n h
  by_cases hn:n > 0
  ·rw[if_pos hn];exact⟨hn,rfl,rfl⟩
  ·rw[if_neg hn]at h;cases h
 unfold Qya at hk ⊢
 simp only at hk ⊢
 split at hk
 ·split at hk
  ·cases hk
  ·split at hk <;> cases hk
 ·rename_i h1
  rw[if_neg h1]
  split at hk
  ·cases hk
  ·rename_i h2
   rw[if_neg h2]
   split at hk
   ·cases hk
   ·rename_i h3
    rw[if_neg h3]
    split at hk
    ·cases hk
    ·rename_i h4
     rw[if_neg h4]
     split at hk
     ·rename_i h5
      rw[if_pos h5]
      split at hk
      ·cases hk
      ·rename_i h6
       rw[if_neg h6]
       exact hs hk
     ·rename_i h5
      rw[if_neg h5]
      exact hs hk
def sgB(t:Tok):Bool:=decide (t.kind=4) && (decide (t.text=[59]) || decide (t.text=[123]) || decide (t.text=[125]))
theorem QWm{l:List UInt8}(h:sgB (Qya l).1=true):QBg (l.drop (Qya l).2.1)+1≤QBg l:=by
 simp only[sgB,Bool.and_eq_true,Bool.or_eq_true,decide_eq_true_eq]at h
 obtain⟨h4,h5⟩:=h
 obtain⟨h0,ht,hn⟩:=QZm h4
 rw[hn]
 rw[ht]at h5
 obtain⟨n,en⟩:∃n,QHb l=n+1:=⟨QHb l-1,by omega⟩
 rw[en]at h5 ⊢
 cases l with
 | nil=>rcases h5 with(h5|h5) | h5 <;> cases h5
 | cons c r=>
  rw[List.drop_succ_cons]
  have hd:=QJf n r
  have hc:c=59∨c=123∨c=125:=by
   simp only[List.take_succ_cons,List.cons.injEq]at h5
   rcases h5 with(h5|h5) | h5
   ·exact .inl h5.1
   ·exact .inr (.inl h5.1)
   ·exact .inr (.inr h5.1)
  have:QBg (c::r)=QBg r+1:=by
   unfold QBg
   rw[List.countP_cons]
   rcases hc with rfl|rfl|rfl <;> rfl
  omega
theorem QXj(file:Int):∀(n:Nat) (l:List UInt8) (p:Int × Int) (acc:List Tok),noJ l=true→(∀t∈acc,t.kind=7→t.text.head?≠some 105)→∀t∈(rdA file n l p acc).1,t.kind=7→t.text.head?≠some 105
 | 0,l,p,acc,_,_=>fun t ht=>by cases ht
 | n+1,l,p,acc,h,ha=>by
  simp only[rdA]
  split
  ·intro t ht;cases ht
  ·split
   ·intro t ht;cases ht
   ·split
    ·intro t ht
     rcases List.mem_append.1 ht with ht|ht
     ·exact ha t ht
     ·simp only[List.mem_singleton]at ht;subst ht;intro e;cases e
    ·split
     ·intro t ht;cases ht
     ·have h5:=Qlh (blk l.length l).1 l h
      refine QXj file n _ _ _ (Qlh _ _ h5) (fun t ht=>?_)
      rcases List.mem_append.1 ht with ht|ht
      ·exact ha t ht
      ·simp only[List.mem_singleton]at ht
       subst ht
       intro hk
       obtain⟨r,e1,e2⟩:=QXm hk
       rw[e1]at h5
       simp only[noJ,ne_eq,not_true_eq_false,decide_false,Bool.false_or,Bool.and_eq_true]at h5
       show(Qya _).1.text.head?≠some 105
       rw[e2]
       cases r with
       | nil=>simp
       | cons c r=>
        have:=h5.1
        simp only[hdI,decide_eq_true_eq]at this
        simpa using this
theorem QSl(file:Int):∀(n:Nat) (l:List UInt8) (p:Int × Int) (acc:List Tok),(rdA file n l p acc).1.countP sgB≤acc.countP sgB+QBg l
 | 0,l,p,acc=>by simp[rdA]
 | n+1,l,p,acc=>by
  simp only[rdA]
  split
  ·simp
  ·split
   ·simp
   ·split
    ·rw[List.countP_append]
     have:List.countP sgB [(⟨8,[],0,(adv (List.take (blk l.length l).fst l) p).fst,(adv (List.take (blk l.length l).fst l) p).snd⟩:Tok)]=0:=rfl
     omega
    ·split
     ·simp
     ·have h5:=QJf (blk l.length l).1 l
      generalize l.drop (blk l.length l).1=l1 at *
      have ih:=QSl file n (l1.drop (Qya l1).2.1) (adv (l1.take (Qya l1).2.1) (adv (List.take (blk l.length l).fst l) p)) (acc++[{ (Qya l1).1 with line:=(adv (List.take (blk l.length l).fst l) p).1,col:=(adv (List.take (blk l.length l).fst l) p).2 }])
      refine Nat.le_trans ih ?_
      rw[List.countP_append]
      have hx:List.countP sgB [{ (Qya l1).1 with line:=(adv (List.take (blk l.length l).fst l) p).1,col:=(adv (List.take (blk l.length l).fst l) p).2 }]=if sgB (Qya l1).1=true then 1 else 0:=by
       rw[List.countP_cons,List.countP_nil,Nat.zero_add];rfl
      rw[hx]
      split
      ·rename_i hs
       have:=QWm hs
       omega
      ·have:=QJf (Qya l1).2.1 l1
       omega
theorem Qxk{l:List UInt8}(file:Int)(h:noJ l=true):∀t∈(Qub l file).1,t.kind=7→t.text.head?≠some 105:=by
 unfold Qub
 split
 ·intro t ht;cases ht
 ·exact QXj file _ _ _ _ h (fun t ht=>by cases ht)
theorem Q0l(l:List UInt8)(file:Int):(Qub l file).1.countP sgB≤QBg l:=by
 unfold Qub
 split
 ·simp
 ·have:=QSl file (l.length+1) l (1,1) []
  simpa using this
section
variable(L:List Tok)
def gS(i:Nat):Nat:=(L.take i).countP sgB
theorem Qce{i j:Nat}(h:i≤j):gS L i≤gS L j:=by
 unfold gS
 have e:L.take i=(L.take j).take i:=by rw[List.take_take,Nat.min_eq_left h]
 rw[e]
 exact(List.take_sublist i (L.take j)).countP_le
theorem Qdq(i:Nat):gS L i≤L.countP sgB:=(List.take_sublist i L).countP_le
theorem QWi{i:Nat}{s:List UInt8}(h:isK L i 4 s=true)(hs:s=[59]∨s=[123]∨s=[125]):gS L (i+1)=gS L i+1:=by
 unfold isK at h
 simp only[Bool.and_eq_true,decide_eq_true_eq,Bool.or_eq_true]at h
 obtain⟨h1,h2⟩:=h
 have hi:i<L.length:=by
  rcases Nat.lt_or_ge i L.length with c|c
  ·exact c
  ·unfold tkN at h1
   rw[List.getD_eq_getElem?_getD,List.getElem?_eq_none c]at h1
   cases h1
 have ht:tkN L i=L[i]:=by unfold tkN;rw[List.getD_eq_getElem?_getD,List.getElem?_eq_getElem hi];rfl
 rw[ht]at h1 h2
 have hb:sgB L[i]=true:=by
  simp only[sgB,Bool.and_eq_true,decide_eq_true_eq,Bool.or_eq_true]
  refine⟨h1,?_⟩
  have h3:L[i].text=s:=by
   rcases h2 with h2|h2
   ·exfalso;rcases hs with rfl|rfl|rfl <;> cases h2
   ·exact h2
  rw[h3]
  rcases hs with rfl|rfl|rfl
  ·exact .inl (.inl rfl)
  ·exact .inl (.inr rfl)
  ·exact .inr rfl
 unfold gS
 rw[List.take_succ_eq_append_getElem hi,List.countP_append,List.countP_cons,List.countP_nil,if_pos hb]
theorem QBf{i j:Nat}(h:Q1a L [59] i = .ok j):j=i+1∧gS L j=gS L i+1:=by
 have h1:=Qke h
 unfold Q1a at h
 split at h
 ·rename_i hk
  rw[h1]
  exact⟨rfl,QWi L hk (.inl rfl)⟩
 ·cases h
theorem Q4g{kind what:Int}{before:List UInt8}{right:List UInt8→Bool}{i j:Nat}{ds:List Qra}(h:Qhd L kind what before right i = .ok (j,ds)):i≤j∧ds.length+gS L i≤gS L j:=by
 unfold Qhd at h
 cases h1:Qha L what right (i+1)with
 | error e=>rw[h1]at h;cases h
 | ok m=>
  rw[h1]at h
  simp only at h
  cases h2:Q1a L [59] m with
  | error e=>rw[h2]at h;cases h
  | ok q=>
   rw[h2]at h
   have e1:=(Qec h1).1
   obtain⟨e2,e3⟩:=QBf L h2
   cases h
   have:=Qce L (show i≤m by omega)
   exact⟨by omega,by simp only[List.length_cons,List.length_nil];omega⟩
theorem Qqd:∀(n:Nat) (md:Md) (i j:Nat) (ds:List Qra),Q7a L n md i = .ok (j,ds)→i≤j∧(match md with
 | .body _ _=>ds.length+gS L i≤gS L j
 | .mems _ acc=>ds.length+gS L i≤gS L j+acc.length
 | .member _=>ds.length+gS L i≤gS L j
 | .named _=>ds.length+gS L i≤gS L j+1)
 | 0,md,i,j,ds,h=>by cases md <;> cases h
 | n+1,.body d dp,i,j,ds,h=>by
  rw[Q7a]at h
  split at h
  ·rename_i hk
   split at h
   ·cases h
   ·obtain⟨h1,h2⟩:=Qqd n (.mems dp [d]) _ _ _ h
    have:=QWi L hk (.inr (.inl rfl))
    simp only[List.length_cons,List.length_nil]at h2
    exact⟨by omega,by show ds.length+gS L i≤gS L j;omega⟩
  ·cases h
 | n+1,.mems dp acc,i,j,ds,h=>by
  rw[Q7a]at h
  split at h
  ·rename_i hk
   cases h
   have:=QWi L hk (.inr (.inr rfl))
   exact⟨by omega,by show(acc++_).length+gS L i≤gS L (i+1)+acc.length;simp only[List.length_append,List.length_cons,List.length_nil];omega⟩
  ·cases h1:Q7a L n (.member dp) i with
   | error e=>rw[h1]at h;cases h
   | ok q=>
    rw[h1]at h
    obtain⟨m,xs⟩:=q
    obtain⟨h2,h3⟩:=Qqd n (.member dp) _ _ _ h1
    obtain⟨h4,h5⟩:=Qqd n (.mems dp (acc++xs)) _ _ _ h
    simp only[List.length_append]at h3 h5
    exact⟨by omega,by show ds.length+gS L i≤gS L j+acc.length;omega⟩
 | n+1,.member dp,i,j,ds,h=>by
  rw[Q7a]at h
  split at h
  ·cases h1:Qha L 5 Qna i with
   | error e=>rw[h1]at h;cases h
   | ok a=>
    rw[h1]at h
    simp only at h
    cases h2:Qha L 1 QUa a with
    | error e=>rw[h2]at h;cases h
    | ok b=>
     rw[h2]at h
     simp only at h
     cases h3:Q7a L n (.body ⟨1,txN L i,txN L a,[],(tkN L i).line,(tkN L i).col⟩ (dp+1)) b with
     | error e=>rw[h3]at h;cases h
     | ok q=>
      rw[h3]at h
      obtain⟨m,xs⟩:=q
      simp only at h
      obtain⟨h6,h7⟩:=Qqd n _ _ _ _ h3
      cases h4:Q1a L [59] m with
      | error e=>rw[h4]at h;cases h
      | ok q=>
       rw[h4]at h;cases h
       obtain⟨e2,e3⟩:=QBf L h4
       have e4:=(Qec h1).1
       have e5:=(Qec h2).1
       have:=Qce L (show i≤b by omega)
       simp only at h7
       exact⟨by omega,by show ds.length+gS L i≤gS L j;omega⟩
  ·split at h
   ·cases h1:Q7a L n (.named dp) i with
    | error e=>rw[h1]at h;cases h
    | ok q=>
     rw[h1]at h
     obtain⟨m,xs⟩:=q
     simp only at h
     obtain⟨h6,h7⟩:=Qqd n _ _ _ _ h1
     cases h4:Q1a L [59] m with
     | error e=>rw[h4]at h;cases h
     | ok q=>
      rw[h4]at h;cases h
      obtain⟨e2,e3⟩:=QBf L h4
      simp only at h7
      exact⟨by omega,by show ds.length+gS L i≤gS L j;omega⟩
   ·split at h
    ·exact Q4g L h
    ·split at h
     ·exact Q4g L h
     ·cases h
 | n+1,.named dp,i,j,ds,h=>by
  rw[Q7a]at h
  split at h
  ·split at h
   ·obtain⟨h6,h7⟩:=Qqd n _ _ _ _ h
    simp only at h7
    have:=Qce L (show i≤i+1 by omega)
    exact⟨by omega,by show ds.length+gS L i≤gS L j+1;omega⟩
   ·cases h
  ·split at h
   ·cases h1:Qgb L (Q6a L) [61] (i+1) []with
    | error e=>rw[h1]at h;cases h
    | ok q=>
     rw[h1]at h
     obtain⟨m,ps⟩:=q
     cases h
     have h2:=QSj _ _ _ _ _ _ h1
     have:=Qce L (show i≤j by omega)
     exact⟨by omega,by show 1+gS L i≤gS L j+1;omega⟩
   ·cases h
theorem Q5g{d:Qra}{i j:Nat}{ds:List Qra}(h:QRi L d i = .ok (j,ds)):i≤j∧ds.length+gS L i≤gS L j:=by
 unfold QRi at h
 cases h1:Q7a L (Q8b L) (.body d 0) i with
 | error e=>rw[h1]at h;cases h
 | ok q=>
  rw[h1]at h
  obtain⟨m,xs⟩:=q
  simp only at h
  obtain⟨h6,h7⟩:=Qqd L _ _ _ _ _ h1
  cases h4:Q1a L [59] m with
  | error e=>rw[h4]at h;cases h
  | ok q=>
   rw[h4]at h;cases h
   obtain⟨e2,e3⟩:=QBf L h4
   simp only at h7
   exact⟨by omega,by omega⟩
theorem Qcp{i j:Nat}{ds:List Qra}(h:Qig L i = .ok (j,ds)):i≤j∧ds.length+gS L i≤gS L j:=by
 unfold Qig at h
 split at h
 ·cases h1:Qha L 5 Qna i with
  | error e=>rw[h1]at h;cases h
  | ok a=>
   rw[h1]at h
   simp only at h
   cases h2:Q1a L [47] a with
   | error e=>rw[h2]at h;cases h
   | ok b=>
    rw[h2]at h
    obtain⟨h6,h7⟩:=Q5g L h
    have e1:=(Qec h1).1
    have e2:=Qke h2
    have:=Qce L (show i≤b by omega)
    exact⟨by omega,by omega⟩
 ·split at h
  ·obtain⟨h6,h7⟩:=Q5g L h
   have:=Qce L (show i≤i+1 by omega)
   exact⟨by omega,by omega⟩
  ·split at h
   ·cases h1:Qha L 6 Qna i with
    | error e=>rw[h1]at h;cases h
    | ok a=>
     rw[h1]at h
     obtain⟨h6,h7⟩:=Q5g L h
     have e1:=(Qec h1).1
     have:=Qce L (show i≤a by omega)
     exact⟨by omega,by omega⟩
   ·split at h
    ·exact Q4g L h
    ·split at h
     ·exact Q4g L h
     ·cases h
theorem Qak:∀(n i:Nat) (acc D:List Qra),QJd L n i acc = .ok D→D.length+gS L i≤acc.length+L.countP sgB
 | 0,i,acc,D,h=>by cases h
 | n+1,i,acc,D,h=>by
  rw[QJd]at h
  split at h
  ·cases h
   have:=Qdq L i
   omega
  ·cases h1:Qig L i with
   | error e=>rw[h1]at h;cases h
   | ok q=>
    rw[h1]at h
    obtain⟨j,ds⟩:=q
    obtain⟨_,h3⟩:=Qcp L h1
    have:=Qak n _ _ _ h
    simp only[List.length_append]at this
    omega
theorem Qep(hL:∀t∈L,t.kind=7→t.text.head?≠some 105){i j:Nat}{ds:List Qra}(h:Qig L i = .ok (j,ds)):∀d∈ds,d.kind≠6:=by
 unfold Qig at h
 split at h
 ·cases h1:Qha L 5 Qna i with
  | error e=>rw[h1]at h;cases h
  | ok a=>
   rw[h1]at h
   simp only at h
   cases h2:Q1a L [47] a with
   | error e=>rw[h2]at h;cases h
   | ok b=>rw[h2]at h;exact QPf L h (by simp)
 ·split at h
  ·exact QPf L h (by simp)
  ·split at h
   ·cases h1:Qha L 6 Qna i with
    | error e=>rw[h1]at h;cases h
    | ok a=>rw[h1]at h;exact QPf L h (by simp)
   ·split at h
    ·rename_i hk
     exfalso
     have h8:=QZc hk (by decide)
     have hi:i<L.length:=by
      rcases Nat.lt_or_ge i L.length with c|c
      ·exact c
      ·unfold tkN at h8
       rw[List.getD_eq_getElem?_getD,List.getElem?_eq_none c]at h8
       exact absurd rfl h8
     have ht:tkN L i=L[i]:=by unfold tkN;rw[List.getD_eq_getElem?_getD,List.getElem?_eq_getElem hi];rfl
     unfold isK at hk
     simp only[Bool.and_eq_true,decide_eq_true_eq,Bool.or_eq_true]at hk
     rw[ht]at hk
     refine hL _ (List.getElem_mem hi) hk.1 ?_
     rcases hk.2 with Ho|Ho
     ·cases Ho
     ·rw[Ho];rfl
    ·split at h
     ·rename_i ko
      obtain⟨_,_,d,rfl,a3⟩:=QLf h (QZc ko (by decide))
      intro x hx
      simp only[List.mem_singleton]at hx;subst hx;rw[a3];decide
     ·cases h
theorem Qck(hL:∀t∈L,t.kind=7→t.text.head?≠some 105):∀(n i:Nat) (acc D:List Qra),QJd L n i acc = .ok D→(∀d∈acc,d.kind≠6)→∀d∈D,d.kind≠6
 | 0,i,acc,D,h,_=>by cases h
 | n+1,i,acc,D,h,ha=>by
  rw[QJd]at h
  split at h
  ·cases h;exact ha
  ·cases h1:Qig L i with
   | error e=>rw[h1]at h;cases h
   | ok q=>
    rw[h1]at h
    obtain⟨j,ds⟩:=q
    refine Qck hL n _ _ _ h (fun d hd=>?_)
    rcases List.mem_append.1 hd with hd|hd
    ·exact ha d hd
    ·exact Qep L hL h1 d hd
end
theorem Qkm(l:List UInt8)(file:Int):(QTb l file).1.length≤QBg l:=by
 unfold QTb
 split
 ·simp
 ·split
  ·rename_i D hD
   have:=Qak _ _ _ _ _ hD
   have:=Q0l l file
   simp only[List.length_nil]at *
   show D.length≤_
   omega
  ·simp
theorem Q6o{l:List UInt8}(file:Int)(h:noJ l=true):∀d∈(QTb l file).1,d.kind≠6:=by
 intro d hd
 unfold QTb at hd
 split at hd
 ·cases hd
 ·split at hd
  ·rename_i hD;exact Qck _ (Qxk file h) _ _ _ _ hD (fun d hd=>by cases hd) d hd
  ·cases hd
def QBq:List ByteArray:=[⟨#[109,97,105,110]⟩,⟨#[97]⟩,⟨#[98]⟩,⟨#[99]⟩,⟨#[100]⟩]
structure Qrq(i:Nat)(f:QFa):Prop where
 name:QBq[i]? = some f.name
 size:f.text.size≤100000
 no:noO f.text.data.toList=true
def Q4n(F:List QFa):Prop:=∀i (h:i<F.length),Qrq i F[i]
section
variable{F:List QFa}(h:Q4n F)(h1:1≤F.length)(h5:F.length≤5)(t:ByteArray)
include h h5
omit h5 in
include h1
omit h5 in
end
def Qoq:List UInt8:=[47,105,110,99,108,117,100,101,47,32,34,120,34,59,10]
def Qgh:Nat→List UInt8
 | 0=>[]
 | k+1=>Qgh k++Qoq
def nmX:ByteArray:=⟨#[120]⟩
def nmM:ByteArray:=⟨#[109,97,105,110]⟩
def QPi(i:Nat):Qra:=⟨6,⟨#[]⟩,nmX,[],i,1⟩
theorem QUm:∀(k:Fin 6),0<k.val→∃D:List Qra,QTb (Qgh k) 1=(D,(0,0,0),0)∧D.length=k.val∧∀d∈D,d.kind=6∧d.name=nmX:=by
 intro k hk
 have hc:k=1∨k=2∨k=3∨k=4∨k=5:=by omega
 rcases hc with rfl|rfl|rfl|rfl|rfl
 ·exact⟨[QPi 1],by kernel_rfl,rfl,fun d hd=>by simp at hd;subst hd;exact⟨rfl,rfl⟩⟩
 ·exact⟨[QPi 1,QPi 2],by kernel_rfl,rfl,fun d hd=>by simp at hd;rcases hd with rfl|rfl <;> exact⟨rfl,rfl⟩⟩
 ·exact⟨[QPi 1,QPi 2,QPi 3],by kernel_rfl,rfl,fun d hd=>by simp at hd;rcases hd with rfl|rfl|rfl <;> exact⟨rfl,rfl⟩⟩
 ·exact⟨[QPi 1,QPi 2,QPi 3,QPi 4],by kernel_rfl,rfl,fun d hd=>by simp at hd;rcases hd with rfl|rfl|rfl|rfl <;> exact⟨rfl,rfl⟩⟩
 ·exact⟨[QPi 1,QPi 2,QPi 3,QPi 4,QPi 5],by kernel_rfl,rfl,fun d hd=>by simp at hd;rcases hd with rfl|rfl|rfl|rfl|rfl <;> exact⟨rfl,rfl⟩⟩
theorem QHg{go:List ByteArray→Q4b→Nat→Nat→Lr}{F:List QFa}{opn:List Nat}{before:Nat}:∀(r:List FdT) (ord:List ByteArray) (giv:Q4b) (out:List FdT),(∀d∈r,d.2.kind≠6)→before+out.length+r.length≤6000→QAa go F opn before r ord giv out = .ok (ord,giv,out++r)
 | [],ord,giv,out,_,_=>by simp[QAa]
 | d::r,ord,giv,out,h,hl=>by
  rw[Qwe (h d List.mem_cons_self)]
  simp only[List.length_cons]at hl
  have hr:¬Qhb before out<1:=by unfold Qhb;omega
  rw[if_neg hr,QHg r ord giv (out++[d]) (fun x hx=>h x (List.mem_cons_of_mem _ hx)) (by simp only[List.length_append,List.length_cons,List.length_nil];omega)]
  simp
def Qhg(k:Nat)(l:List FdT):List FdT:=(List.replicate k l).flatten
theorem QAf(k:Nat)(l:List FdT):(Qhg k l).length=k*l.length:=by
 unfold Qhg
 induction k with
 | zero=>simp
 | succ k ih=>rw[List.replicate_succ,List.flatten_cons,List.length_append,ih,Nat.succ_mul];omega
theorem QGg{go:List ByteArray→Q4b→Nat→Nat→Lr}{F:List QFa}{opn:List Nat}{T:List FdT}{giv:Q4b}(hf:QYb F nmX=some 0)(ho:opn.contains 0=false)(hg:Qkf giv 0=some T):∀(r:List FdT) (ord:List ByteArray) (out:List FdT),(∀d∈r,d.2.kind=6∧d.2.name=nmX)→out.length+r.length*T.length≤6000→QAa go F opn 0 r ord giv out = .ok (ord,giv,out++Qhg r.length T)
 | [],ord,out,_,_=>by simp[QAa,Qhg]
 | d::r,ord,out,h,hl=>by
  obtain⟨h1,h2⟩:=h d List.mem_cons_self
  simp only[List.length_cons,Nat.succ_mul]at hl
  rw[Q6c h1 (by rw[h2];exact hf) ho hg]
  have hr:¬Qhb 0 out<T.length:=by unfold Qhb;omega
  rw[if_neg hr,QGg hf ho hg r ord (out++T) (fun x hx=>h x (List.mem_cons_of_mem _ hx)) (by simp only[List.length_append];omega)]
  simp[Qhg,List.replicate_succ]
theorem QOn(b m:ByteArray):QYb [⟨nmX,b⟩,⟨nmM,m⟩] nmX=some 0:=by simp[QYb,List.findIdx?_cons]
theorem Qyp(b m:ByteArray):QYb [⟨nmX,b⟩,⟨nmM,m⟩] nmM=some 1:=by
 have h:(nmX=nmM)=False:=by simp only[eq_iff_iff,iff_false];decide
 simp[QYb,List.findIdx?_cons,h]
theorem Qdk(body main:ByteArray)(k:Nat)(h1:1≤k)(h5:k≤5)(hm:main.data.toList=Qgh k)(hJ:noJ body.data.toList=true)(hc:QBg body.data.toList≤1000) :
 Qld [⟨nmX,body⟩,⟨nmM,main⟩] nmM=if (QTb body.data.toList 0).2.2≠0 then .error ((QTb body.data.toList 0).2.1,(QTb body.data.toList 0).2.2)
  else .ok ([nmM,nmX],[(0,Qoc 0 (QTb body.data.toList 0).1),(1,Qhg k (Qoc 0 (QTb body.data.toList 0).1))],Qhg k (Qoc 0 (QTb body.data.toList 0).1)):=by
 have bD:QRk [] [(⟨nmX,body⟩:QFa),⟨nmM,main⟩]=false:=Q9k _ [] (by
  simp only[List.map_cons,List.map_nil,List.nil_append];decide)
 obtain⟨DM,hM,nA,rJ⟩:=QUm ⟨k,by omega⟩ (by show 0<k;omega)
 simp only at hM nA
 have Ga:(QTb body.data.toList 0).1.length≤1000:=Nat.le_trans (Qkm _ _) hc
 have MO:=Q6o 0 hJ
 have e0:(List.getD [(⟨nmX,body⟩:QFa),⟨nmM,main⟩] 0 ⟨⟨#[]⟩,⟨#[]⟩⟩)=⟨nmX,body⟩:=rfl
 have e1:(List.getD [(⟨nmX,body⟩:QFa),⟨nmM,main⟩] 1 ⟨⟨#[]⟩,⟨#[]⟩⟩)=⟨nmM,main⟩:=rfl
 unfold Qld
 rw[if_neg (by simp),if_neg (by rw[bD];simp),Qyp]
 simp only[List.length_cons,List.length_nil]
 show ldT _ (2+1) [] [] [] 1 0=_
 rw[ldT]
 simp only[e1,hm]
 have Mc:QTb (Qgh k) ((1:Nat):Int)=(DM,(0,0,0),0):=hM
 rw[Mc]
 simp only[ne_eq,not_true_eq_false,if_false,List.nil_append]
 obtain⟨d,r,rfl⟩:∃d r,DM=d::r:=by
  cases DM with
  | nil=>simp only[List.length_nil]at nA;omega
  | cons d r=>exact⟨d,r,rfl⟩
 obtain⟨jB,cr⟩:=rJ d List.mem_cons_self
 rw[show Qoc ((1:Nat):Int) (d::r)=((1:Int),d)::Qoc 1 r from rfl]
 rw[Qxe (d:=((1:Int),d)) jB (by show QYb _ d.name=some 0;rw[cr];exact QOn _ _) (by decide) rfl]
 have mP:ldT [(⟨nmX,body⟩:QFa),⟨nmM,main⟩] 2 [1] [nmM] [] 0 (0+([]:List FdT).length)=if (QTb body.data.toList 0).2.2≠0 then .error ((QTb body.data.toList 0).2.1,(QTb body.data.toList 0).2.2)else .ok ([nmM,nmX],[(0,Qoc 0 (QTb body.data.toList 0).1)],Qoc 0 (QTb body.data.toList 0).1):=by
  rw[ldT]
  simp only[e0]
  show(if (QTb body.data.toList 0).2.2≠0 then _ else _)=_
  by_cases he:(QTb body.data.toList 0).2.2≠0
  ·rw[if_pos he,if_pos he];rfl
  ·rw[if_neg he,if_neg he]
   have sq:=QHg (go:=ldT [(⟨nmX,body⟩:QFa),⟨nmM,main⟩] 1 ([1]++[0])) (F:=[(⟨nmX,body⟩:QFa),⟨nmM,main⟩]) (opn:=[1]++[0]) (before:=0) (Qoc 0 (QTb body.data.toList 0).1) ([nmM]++[nmX]) [] [] (fun x hx=>by
    obtain⟨y,hy,rfl⟩:=List.mem_map.1 hx
    exact MO y hy) (by simp only[Qoc,List.length_map,List.length_nil];omega)
   show(match QAa (ldT [(⟨nmX,body⟩:QFa),⟨nmM,main⟩] 1 ([1]++[0])) [(⟨nmX,body⟩:QFa),⟨nmM,main⟩] ([1]++[0]) 0 (Qoc 0 (QTb body.data.toList 0).1) ([nmM]++[nmX]) [] []with
    | .error e=>(Except.error e:Lr)
    | .ok (o,g,out)=>Except.ok (o,g++[(((0:Nat):Int),out)],out))=_
   rw[sq]
   rfl
 have eo:ldT [(⟨nmX,body⟩:QFa),⟨nmM,main⟩] 2 [1] [nmM] [] 0 (0+([]:List FdT).length)=_:=mP
 rw[show(2:Nat)=0+1+1 from rfl]at eo
 rw[show(0+1+1:Nat)=2 from rfl]at eo
 rw[eo]
 by_cases he:(QTb body.data.toList 0).2.2≠0
 ·rw[if_pos he,if_pos he]
 ·rw[if_neg he,if_neg he]
  simp only
  have gm:(Qoc 0 (QTb body.data.toList 0).1).length≤1000:=by simpa[Qoc]using Ga
  generalize Qoc 0 (QTb body.data.toList 0).1=T at *
  have hr:¬Qhb 0 ([]:List FdT)<T.length:=by unfold Qhb;simp only[List.length_nil];omega
  rw[if_neg hr,List.nil_append]
  simp only[List.length_cons]at nA
  have mZ:(Qoc 1 r).length=r.length:=by simp[Qoc]
  have hb:r.length*T.length≤4*1000:=Nat.mul_le_mul (by omega) gm
  rw[QGg (QOn _ _) (by decide) rfl (Qoc 1 r) _ _ (fun x hx=>by
   obtain⟨y,hy,rfl⟩:=List.mem_map.1 hx
   exact rJ y (List.mem_cons_of_mem _ hy)) (by show T.length+(Qoc 1 r).length*T.length≤6000;rw[mZ];omega),mZ]
  have e5:T++Qhg r.length T=Qhg k T:=by
   rw[←nA]
   simp[Qhg,List.replicate_succ]
  rw[e5]
  rfl
theorem QMi(body main:ByteArray)(k:Nat)(h1:1≤k)(h5:k≤5)(hm:main.data.toList=Qgh k)(hJ:noJ body.data.toList=true)(hc:QBg body.data.toList≤1000) :
 QAd [⟨nmX,body⟩,⟨nmM,main⟩] nmM=(if (QTb body.data.toList 0).2.2≠0 then([],(QTb body.data.toList 0).2.1,(QTb body.data.toList 0).2.2)else(Qhg k (Qoc 0 (QTb body.data.toList 0).1),(0,0,0),0))∧
 Qwg [⟨nmX,body⟩,⟨nmM,main⟩] nmM=(if (QTb body.data.toList 0).2.2≠0 then([],(QTb body.data.toList 0).2.2)else([nmM,nmX],0)):=by
 unfold QAd Qwg
 rw[Qdk body main k h1 h5 hm hJ hc]
 by_cases he:(QTb body.data.toList 0).2.2≠0
 ·rw[if_pos he,if_pos he,if_pos he];exact⟨rfl,rfl⟩
 ·rw[if_neg he,if_neg he,if_neg he];exact⟨rfl,rfl⟩
structure Ci(s:ByteArray)(c:Nat)(e:Bool):Prop where
 cs:Cs s c e
 noi:(hdI s.data.toList && noJ s.data.toList)=true
theorem Ci.le{s:ByteArray}{c d:Nat}{e:Bool}(h:Ci s c e)(hd:c≤d):Ci s d e:=⟨h.cs.le hd,h.noi⟩
theorem Ci.up{s:ByteArray}{c:Nat}{e:Bool}(h:Ci s c e){d:Nat}(hd:c≤d):Ci s d true:=⟨h.cs.up hd,h.noi⟩
theorem Ci.empty:Ci ByteArray.empty 0 false:=⟨Cs.empty,rfl⟩
theorem Ci.lit{l:ByteArray}(c:Nat)(e:Bool)(h:((noC l.data.toList && decide (QBg l.data.toList≤c) && (e || !Qtm l.data.toList)) && (hdI l.data.toList && noJ l.data.toList))=true):Ci l c e:=by
 rw[Bool.and_eq_true]at h
 exact⟨Cs.lit c e h.1,h.2⟩
theorem Ci.cat{a b c:ByteArray}{i j:Nat}{ea eb:Bool}(h:c.data.toList=a.data.toList++b.data.toList)(ha:Ci a i ea)(hb:Ci b j eb)(ho:ea=false∨(okC b.data.toList=true∧b.data.toList≠[])):Ci c (i+j) eb:=by
 refine⟨Cs.cat h ha.cs hb.cs ho,?_⟩
 have h1:=ha.noi
 have h2:=hb.noi
 rw[Bool.and_eq_true]at h1 h2 ⊢
 rw[h]
 exact⟨Qlo _ _ h1.1 h2.1,QDl _ _ h1.2 h2.2 h2.1⟩
theorem Ci.app{a b c:ByteArray}{i j:Nat}{eb:Bool}(h:c.data.toList=a.data.toList++b.data.toList)(ha:Ci a i false)(hb:Ci b j eb):Ci c (i+j) eb:=Ci.cat h ha hb (.inl rfl)
theorem Ci.of_chr{a:List UInt8}(h:a.all QUk=true):Ci ⟨a.toArray⟩ 0 false:=by
 refine⟨Cs.of_chr h,?_⟩
 have h1:∀l:List UInt8,l.all QUk=true→hdI l=true∧noJ l=true:=by
  intro l
  induction l with
  | nil=>intro _;exact⟨rfl,rfl⟩
  | cons c l ih=>
   intro hl
   rw[List.all_cons,Bool.and_eq_true]at hl
   obtain⟨i1,i2⟩:=ih hl.2
   have hc:=hl.1
   simp only[QUk,Bool.and_eq_true,decide_eq_true_eq,ne_eq]at hc
   refine⟨by simp only[hdI,decide_eq_true_eq];exact hc.2,?_⟩
   simp only[noJ,i1,i2,Bool.or_true,Bool.and_true]
 obtain⟨i1,i2⟩:=h1 a h
 show(hdI a && noJ a)=true
 rw[i1,i2];rfl
def Qhp(B b m c:Nat)(q:Bool)(w:World)(e:Ending)(w':World):Prop:=∃s:ByteArray,e = .returned (.string s)∧s.size≤m∧Ci s c q∧QBd B w' b∧Qaa (· = b) w w'
theorem Qbq:∀s∈QBp,Ci s 0 false:=fun s hs=>Ci.lit 0 false (by revert s;decide)
theorem Qaq:∀s∈QAp,Ci s 0 false:=fun s hs=>Ci.lit 0 false (by revert s;decide)
theorem Q6k:∀s∈Q5c,Ci s 0 false:=fun s hs=>Ci.lit 0 false (by revert s;decide)
theorem QWh:∀s∈Qmk,Ci s 0 false:=fun s hs=>Ci.lit 0 false (by revert s;decide)
theorem QAq:∀s∈lPh,Ci s 0 false:=fun s hs=>Ci.lit 0 false (by revert s;decide)
set_option maxRecDepth 100000 in
theorem QBc(B b:Nat)(w:World)(h:QBd B w b) :
 Calls Tryz.prog 31 #[.pointer (some ⟨b,0,none⟩)] w (Qhp B b 3 0 false w):=by
 have Hj:=h.lt
 go_enter Tryz.func31,Tryz.ntmps31
 go_wp2_with fail
 refine(Qih B b 6 _ (h.keeps ((Qaa.refl (fun _=>False) w).alloc _) (fun _ e=>e.elim)) (by omega) (by omega)).mono ?_
 rintro e w1 ⟨r,rfl,r0,r1,hT,hK⟩
 obtain⟨r,rfl⟩:=Int.eq_ofNat_of_zero_le r0
 have hH:=(Qca.new w (QBp.map Value.string).toArray 9).keeps hK (by omega)
 obtain⟨s,gW,gE⟩:=QEe QBp r (by have:QBp.length=6:=rfl;omega)
 have hc:w1.cell? ⟨w.heap.size,r,none⟩=some (.string s):=(hH.cell r).trans (by simp[gW])
 have ga:Qaa (fun i=>i=b) w w1:=((Qaa.refl (fun i=>i=b) w).alloc _).trans hK (fun _ _ e=>e)
 go_wp2_with fail
 go_ret
 exact⟨s,rfl,Qqo s gE,Qbq s gE,hT,ga⟩
set_option maxRecDepth 100000 in
theorem QDg(B b:Nat)(w:World)(h:QBd B w b) :
 Calls Tryz.prog 78 #[.pointer (some ⟨b,0,none⟩)] w (Qhp B b 60 0 false w):=by
 have Hj:=h.lt
 go_enter Tryz.func78,Tryz.ntmps78
 go_wp2_with fail
 refine(Qih B b 5 _ h (by omega) (by omega)).mono ?_
 rintro e w1 ⟨r,rfl,r0,r1,Kl,gZ⟩
 by_cases h0:r=0
 ·subst h0
  go_wp2_with fail
  refine(QBc B b _ Kl).mono ?_
  rintro e w2 ⟨s,rfl,hs,css,gX,ga⟩
  obtain⟨s1,Hv,gW,kJ⟩:=QFf ⟨#[38]⟩ s (by have:(⟨#[38]⟩:ByteArray).size=1:=rfl;omega)
  have css1:=Ci.app kJ (Ci.lit (l:=⟨#[38]⟩) 0 false (by decide)) css
  have e1:(⟨#[38]⟩:ByteArray).size=1:=rfl
  unfold QYd at Hv
  go_wp2_with fail
  go_ret
  exact⟨s1,rfl,by omega,css1.le (by omega),gX,gZ.trans ga (fun _ _ e=>e)⟩
 ·have h0':(r == 0)=false:=by simpa using h0
  by_cases h1:r=1
  ·subst h1
   go_wp2_with fail
   refine(Qhh B b 1 (by omega) _ Kl).mono ?_
   rintro e w2 ⟨s,x,rfl,hX,gX,ga⟩
   have mh:s.length≤40:=hX.len
   obtain⟨s1,Hv,gW,kJ⟩:=QFf ⟨#[40]⟩ ⟨s.toArray⟩ (by simp[ByteArray.size];omega)
   have css1:=Ci.app kJ (Ci.lit (l:=⟨#[40]⟩) 0 false (by decide)) (Ci.of_chr hX.chr)
   have e1:(⟨#[40]⟩:ByteArray).size=1:=rfl
   have e2:(⟨s.toArray⟩:ByteArray).size=s.length:=by simp[ByteArray.size]
   obtain⟨s2,K7,gE,hx2⟩:=QFf s1 ⟨#[41]⟩ (by have:(⟨#[41]⟩:ByteArray).size=1:=rfl;omega)
   have css2:=Ci.app hx2 css1 (Ci.lit (l:=⟨#[41]⟩) 0 false (by decide))
   have e3:(⟨#[41]⟩:ByteArray).size=1:=rfl
   unfold QYd at Hv K7
   go_wp2_with fail
   go_ret
   exact⟨s2,rfl,by omega,css2.le (by omega),gX,gZ.trans ga (fun _ _ e=>e)⟩
  ·have h1':(r == 1)=false:=by simpa using h1
   go_wp2_with fail
   refine(Qih B b 6 _ (Kl.keeps ((Qaa.refl (fun _=>False) w1).alloc _) (fun _ e=>e.elim)) (by omega) (by omega)).mono ?_
   rintro e w2 ⟨q,rfl,q0,q1,gX,ga⟩
   obtain⟨q,rfl⟩:=Int.eq_ofNat_of_zero_le q0
   have Ks:=Kl.lt
   have hH:=(Qca.new w1 (QAp.map Value.string).toArray 9).keeps ga (by omega)
   obtain⟨s,gW,gE⟩:=QEe QAp q (by have:QAp.length=6:=rfl;omega)
   have hc:w2.cell? ⟨w1.heap.size,q,none⟩=some (.string s):=(hH.cell q).trans (by simp[gW])
   have gd:Qaa (fun i=>i=b) w w2:=(gZ.alloc _).trans ga (fun _ _ e=>e)
   have:=Qpo s gE
   go_wp2_with fail
   go_ret
   exact⟨s,rfl,by omega,Qaq s gE,gX,gd⟩
def Qtq(B b:Nat)(w:World)(f:Nat)(x y:Value)(wr:World):Prop:=
 ∃(s:ByteArray) (r:Nat),x = .string s∧y = .int .i64 r∧r≤f∧r≤3∧s.size+250*r≤750∧Ci s 0 true∧QBd B wr b∧Qaa (· = b) w wr
def Qkq(B b m:Nat)(w:World)(f:Nat)(x y:Value)(wr:World):Prop:=
 ∃(s:ByteArray) (r:Nat),x = .string s∧y = .int .i64 r∧r≤f∧r≤3∧s.size+61*r≤m∧Ci s 0 false∧QBd B wr b∧Qaa (· = b) w wr
set_option maxRecDepth 100000 in
theorem QXi(B b:Nat)(w:World)(h:QBd B w b) :
 Calls Tryz.prog 46 #[.pointer (some ⟨b,0,none⟩)] w (Qhp B b 750 0 true w):=by
 go_enter Tryz.func46,Tryz.ntmps46
 go_wp2_with fail
 refine(Qjh B b 1 3 _ h (by omega) (by omega) (by omega)).mono ?_
 rintro e w1 ⟨r,rfl,r0,r1,hT,hK⟩
 obtain⟨r,rfl⟩:=Int.eq_ofNat_of_zero_le (show 0≤r by omega)
 go_wp2_with fail
 go_loopg [3,4] r (fun f x y wr=>Qtq B b w f x y wr)
 case atStart=>exact⟨ByteArray.empty,r,rfl,rfl,by omega,by omega,by simp;omega,Ci.empty.up (by omega),hT,hK⟩
 case round=>
  obtain⟨s,r,rfl,rfl,hf,mY,hs,css,hT,hK⟩:=hrel
  obtain⟨go,rfl⟩:∃x:Nat,x=gk:=⟨_,rfl⟩
  obtain⟨wo,rfl⟩:∃x:World,x=wr:=⟨_,rfl⟩
  by_cases h0:0<r
  ·by_cases hz:s.size=0
   ·obtain rfl:=QMd s hz
    clear hz
    have hez:ByteArray.empty.size=0:=rfl
    go_wp2_with fail
    refine(Qih B b 6 _ hT (by omega) (by omega)).mono ?_
    rintro e w2 ⟨q,rfl,q0,q1,gX,ga⟩
    have gd:Qaa (· = b) w w2:=hK.trans ga (fun _ _ e=>e)
    have lW:q=0∨q=1∨q=2∨q=3∨(4≤q):=by omega
    rcases lW with rfl|rfl|rfl|rfl|hq
    ·obtain⟨s1,Hv,gW,gF⟩:=Qta ByteArray.empty ⟨#[34,116,101,120,116,34]⟩ 6 rfl (by omega) (by omega)
     have css1:=Ci.app gF Ci.empty (Ci.lit (l:=⟨#[34,116,101,120,116,34]⟩) 0 true (by decide))
     clear gF
     go_wp2_with fail
     go_roundg (go-1)
     case measure=>omega
     case rel=>exact⟨s1,r-1,rfl,by go_num,by omega,by omega,by omega,css1.up (by omega),gX,gd⟩
    ·obtain⟨s1,Hv,gW,gF⟩:=Qta ByteArray.empty ⟨#[91,32,48,32,49,55,32,50,53,53,32,93]⟩ 12 rfl (by omega) (by omega)
     have css1:=Ci.cat gF Ci.empty (Ci.lit (l:=⟨#[91,32,48,32,49,55,32,50,53,53,32,93]⟩) 0 false (by decide)) (.inr (by decide))
     clear gF
     go_wp2_with fail
     go_roundg (go-1)
     case measure=>omega
     case rel=>exact⟨s1,r-1,rfl,by go_num,by omega,by omega,by omega,css1.up (by omega),gX,gd⟩
    ·go_wp2_with fail
     refine(QBc B b _ gX).mono ?_
     rintro e w3 ⟨lb,rfl,nK,cslb,ku,Gn⟩
     obtain⟨l1,Hv,gW,mA⟩:=QCa ⟨#[38]⟩ lb (by decide) (by omega)
     have csl1:=Ci.app mA (Ci.lit (l:=⟨#[38]⟩) 0 false (by decide)) cslb
     clear mA
     have e1:(⟨#[38]⟩:ByteArray).size=1:=rfl
     obtain⟨s1,K7,gE,gF⟩:=QCa ByteArray.empty l1 (by omega) (by omega)
     have css1:=Ci.app gF Ci.empty csl1
     clear gF
     go_wp2_with fail
     go_roundg (go-1)
     case measure=>omega
     case rel=>exact⟨s1,r-1,rfl,by go_num,by omega,by omega,by omega,css1.up (by omega),ku,gd.trans Gn (fun _ _ e=>e)⟩
    ·obtain⟨s1,Hv,gW,gF⟩:=Qta ByteArray.empty ⟨#[34,97,92,120,52,49,92,110,34]⟩ 9 rfl (by omega) (by omega)
     have css1:=Ci.app gF Ci.empty (Ci.lit (l:=⟨#[34,97,92,120,52,49,92,110,34]⟩) 0 true (by decide))
     clear gF
     go_wp2_with fail
     go_roundg (go-1)
     case measure=>omega
     case rel=>exact⟨s1,r-1,rfl,by go_num,by omega,by omega,by omega,css1.up (by omega),gX,gd⟩
    ·have z0:(q == 0)=false:=by rw[beq_eq_false_iff_ne];omega
     have z1:(q == 1)=false:=by rw[beq_eq_false_iff_ne];omega
     have z2:(q == 2)=false:=by rw[beq_eq_false_iff_ne];omega
     have z3:(q == 3)=false:=by rw[beq_eq_false_iff_ne];omega
     obtain⟨s1,Hv,gW,gF⟩:=Qta ByteArray.empty ⟨#[60]⟩ 1 rfl (by omega) (by omega)
     have css1:=Ci.cat gF Ci.empty (Ci.lit (l:=⟨#[60]⟩) 0 false (by decide)) (.inr (by decide))
     clear gF
     go_wp2_with fail
     refine(Qih B b 4 _ gX (by omega) (by omega)).mono ?_
     rintro e w3 ⟨k,rfl,k0,k1,ku,Gn⟩
     obtain⟨k,rfl⟩:=Int.eq_ofNat_of_zero_le k0
     have kt:Qaa (· = b) w w3:=gd.trans Gn (fun _ _ e=>e)
     clear Hv z0 z1 z2 z3 hq q0 q1
     go_wp2_with fail
     go_loopg [3,5] k (fun f x y wr=>Qkq B b (s1.size+183) w f x y wr)
     case atStart=>exact⟨s1,k,rfl,rfl,by omega,by omega,by omega,css1.le (by omega),ku,kt⟩
     case round=>
      obtain⟨s2,k,rfl,rfl,ab,Hc,gE,css2,K6,mO⟩:=hrel
      by_cases hk:0<k
      ·go_wp2_with fail
       refine(QDg B b _ K6).mono ?_
       rintro e w4 ⟨c,rfl,hc,csc,JZ,dN⟩
       obtain⟨c1,K7,sD,G4⟩:=Qta c ⟨#[32]⟩ 1 rfl (by omega) (by omega)
       have csc1:=Ci.cat G4 csc (Ci.lit (l:=⟨#[32]⟩) 0 false (by decide)) (.inr (by decide))
       clear G4
       obtain⟨s3,dX,qr,mE⟩:=QCa s2 c1 (by omega) (by omega)
       have css3:=Ci.app mE css2 csc1
       clear mE
       go_wp2_with fail
       go_roundg (gk-1)
       case measure=>omega
       case rel=>exact⟨s3,k-1,rfl,by go_num,by omega,by omega,by omega,css3.le (by omega),JZ,mO.trans dN (fun _ _ e=>e)⟩
      ·obtain⟨s3,dX,qr,mE⟩:=Qta s2 ⟨#[62]⟩ 1 rfl (by omega) (by omega)
       have css3:=Ci.cat mE css2 (Ci.lit (l:=⟨#[62]⟩) 0 false (by decide)) (.inr (by decide))
       clear mE
       go_wp2_with fail
       go_roundg (go-1)
       case measure=>omega
       case rel=>exact⟨s3,r-1,rfl,by go_num,by omega,by omega,by omega,css3.up (by omega),K6,mO⟩
   ·have Hq:=QIc s (by omega)
    have Je:=Qvb s (by omega)
    obtain⟨s0,ub,bS,lY⟩:=Qta s ⟨#[44,32]⟩ 2 rfl (by omega) (by omega)
    have css0:=Ci.cat lY css (Ci.lit (l:=⟨#[44,32]⟩) 0 false (by decide)) (.inr (by decide))
    clear lY
    go_wp2_with fail
    clear ub Hq Je
    refine(Qih B b 6 _ hT (by omega) (by omega)).mono ?_
    rintro e w2 ⟨q,rfl,q0,q1,gX,ga⟩
    have gd:Qaa (· = b) w w2:=hK.trans ga (fun _ _ e=>e)
    have lW:q=0∨q=1∨q=2∨q=3∨(4≤q):=by omega
    rcases lW with rfl|rfl|rfl|rfl|hq
    ·obtain⟨s1,Hv,gW,gF⟩:=Qta s0 ⟨#[34,116,101,120,116,34]⟩ 6 rfl (by omega) (by omega)
     have css1:=Ci.app gF css0 (Ci.lit (l:=⟨#[34,116,101,120,116,34]⟩) 0 true (by decide))
     clear gF
     go_wp2_with fail
     go_roundg (go-1)
     case measure=>omega
     case rel=>exact⟨s1,r-1,rfl,by go_num,by omega,by omega,by omega,css1.up (by omega),gX,gd⟩
    ·obtain⟨s1,Hv,gW,gF⟩:=Qta s0 ⟨#[91,32,48,32,49,55,32,50,53,53,32,93]⟩ 12 rfl (by omega) (by omega)
     have css1:=Ci.cat gF css0 (Ci.lit (l:=⟨#[91,32,48,32,49,55,32,50,53,53,32,93]⟩) 0 false (by decide)) (.inr (by decide))
     clear gF
     go_wp2_with fail
     go_roundg (go-1)
     case measure=>omega
     case rel=>exact⟨s1,r-1,rfl,by go_num,by omega,by omega,by omega,css1.up (by omega),gX,gd⟩
    ·go_wp2_with fail
     refine(QBc B b _ gX).mono ?_
     rintro e w3 ⟨lb,rfl,nK,cslb,ku,Gn⟩
     obtain⟨l1,Hv,gW,mA⟩:=QCa ⟨#[38]⟩ lb (by decide) (by omega)
     have csl1:=Ci.app mA (Ci.lit (l:=⟨#[38]⟩) 0 false (by decide)) cslb
     clear mA
     have e1:(⟨#[38]⟩:ByteArray).size=1:=rfl
     obtain⟨s1,K7,gE,gF⟩:=QCa s0 l1 (by omega) (by omega)
     have css1:=Ci.app gF css0 csl1
     clear gF
     go_wp2_with fail
     go_roundg (go-1)
     case measure=>omega
     case rel=>exact⟨s1,r-1,rfl,by go_num,by omega,by omega,by omega,css1.up (by omega),ku,gd.trans Gn (fun _ _ e=>e)⟩
    ·obtain⟨s1,Hv,gW,gF⟩:=Qta s0 ⟨#[34,97,92,120,52,49,92,110,34]⟩ 9 rfl (by omega) (by omega)
     have css1:=Ci.app gF css0 (Ci.lit (l:=⟨#[34,97,92,120,52,49,92,110,34]⟩) 0 true (by decide))
     clear gF
     go_wp2_with fail
     go_roundg (go-1)
     case measure=>omega
     case rel=>exact⟨s1,r-1,rfl,by go_num,by omega,by omega,by omega,css1.up (by omega),gX,gd⟩
    ·have z0:(q == 0)=false:=by rw[beq_eq_false_iff_ne];omega
     have z1:(q == 1)=false:=by rw[beq_eq_false_iff_ne];omega
     have z2:(q == 2)=false:=by rw[beq_eq_false_iff_ne];omega
     have z3:(q == 3)=false:=by rw[beq_eq_false_iff_ne];omega
     obtain⟨s1,Hv,gW,gF⟩:=Qta s0 ⟨#[60]⟩ 1 rfl (by omega) (by omega)
     have css1:=Ci.cat gF css0 (Ci.lit (l:=⟨#[60]⟩) 0 false (by decide)) (.inr (by decide))
     clear gF
     go_wp2_with fail
     refine(Qih B b 4 _ gX (by omega) (by omega)).mono ?_
     rintro e w3 ⟨k,rfl,k0,k1,ku,Gn⟩
     obtain⟨k,rfl⟩:=Int.eq_ofNat_of_zero_le k0
     have kt:Qaa (· = b) w w3:=gd.trans Gn (fun _ _ e=>e)
     clear Hv z0 z1 z2 z3 hq q0 q1
     go_wp2_with fail
     go_loopg [3,5] k (fun f x y wr=>Qkq B b (s1.size+183) w f x y wr)
     case atStart=>exact⟨s1,k,rfl,rfl,by omega,by omega,by omega,css1.le (by omega),ku,kt⟩
     case round=>
      obtain⟨s2,k,rfl,rfl,ab,Hc,gE,css2,K6,mO⟩:=hrel
      by_cases hk:0<k
      ·go_wp2_with fail
       refine(QDg B b _ K6).mono ?_
       rintro e w4 ⟨c,rfl,hc,csc,JZ,dN⟩
       obtain⟨c1,K7,sD,G4⟩:=Qta c ⟨#[32]⟩ 1 rfl (by omega) (by omega)
       have csc1:=Ci.cat G4 csc (Ci.lit (l:=⟨#[32]⟩) 0 false (by decide)) (.inr (by decide))
       clear G4
       obtain⟨s3,dX,qr,mE⟩:=QCa s2 c1 (by omega) (by omega)
       have css3:=Ci.app mE css2 csc1
       clear mE
       go_wp2_with fail
       go_roundg (gk-1)
       case measure=>omega
       case rel=>exact⟨s3,k-1,rfl,by go_num,by omega,by omega,by omega,css3.le (by omega),JZ,mO.trans dN (fun _ _ e=>e)⟩
      ·obtain⟨s3,dX,qr,mE⟩:=Qta s2 ⟨#[62]⟩ 1 rfl (by omega) (by omega)
       have css3:=Ci.cat mE css2 (Ci.lit (l:=⟨#[62]⟩) 0 false (by decide)) (.inr (by decide))
       clear mE
       go_wp2_with fail
       go_roundg (go-1)
       case measure=>omega
       case rel=>exact⟨s3,r-1,rfl,by go_num,by omega,by omega,by omega,css3.up (by omega),K6,mO⟩
  ·go_wp2_with fail
   go_ret
   exact⟨s,rfl,by omega,css,hT,hK⟩
def Qsq(B b k n:Nat)(w:World)(f:Nat)(x y:Value)(wr:World):Prop:=
 ∃(s:ByteArray) (r:Nat),x = .string s∧y = .int .i64 r∧r≤f∧r≤4∧s.size+k*r≤4*k∧(∃i,Ci s i false∧i+n*r≤4*n)∧QBd B wr b∧Qaa (· = b) w wr
set_option maxRecDepth 100000 in
theorem Q2d(B b d k m n:Nat)(hn:1≤n∧(0<d→3≤n))(hd:d≤4)(hk:800≤k∧k≤10000000)(hm:m=4*k)(hrec:0<d→∀(w:World),QBd B w b→
 Calls Tryz.prog 26 #[.pointer (some ⟨b,0,none⟩),.int .i64 ((d:Int)-1)] w (Qhp B b (k-800) (n-3) false w)) (w:World) (h:QBd B w b) :
 Calls Tryz.prog 26 #[.pointer (some ⟨b,0,none⟩),.int .i64 d] w (Qhp B b m (4*n) false w):=by
 obtain⟨mf,Ht⟩:=hk
 have HR:=Lib.hid hrec
 have HM:=Lib.hid hm
 clear hrec hm
 go_enter Tryz.func26,Tryz.ntmps26
 go_wp2_with fail
 refine(Qih B b 5 _ h (by omega) (by omega)).mono ?_
 rintro e w1 ⟨r,rfl,r0,r1,hT,hK⟩
 obtain⟨r,rfl⟩:=Int.eq_ofNat_of_zero_le r0
 go_wp2_with fail
 go_loopg [5,6] r (fun f x y wr=>Qsq B b k n w f x y wr)
 case atStart=>exact⟨ByteArray.empty,r,rfl,rfl,by omega,by omega,by rw[show ByteArray.empty.size=0 from rfl,Nat.zero_add,Nat.mul_comm];exact Nat.mul_le_mul_right _ (by omega),⟨0,Ci.empty,by rw[Nat.zero_add,Nat.mul_comm];exact Nat.mul_le_mul_right _ (by omega)⟩,hT,hK⟩
 case round=>
  obtain⟨s,r,rfl,rfl,hf,mY,hs,⟨ci,css,fA⟩,hT,hK⟩:=hrel
  by_cases h0:0<r
  ·have iZ:ci+n+n*(r-1)≤4*n:=by
    obtain⟨r',rfl⟩:∃r',r=r'+1:=⟨r-1,by omega⟩
    rw[Nat.mul_add,Nat.mul_one]at fA;rw[Nat.add_sub_cancel];omega
   have JB:=Lib.hid iZ
   clear fA iZ
   have hs':s.size+k+k*(r-1)≤4*k:=by
    obtain⟨r',rfl⟩:∃r',r=r'+1:=⟨r-1,by omega⟩
    rw[Nat.mul_add,Nat.mul_one]at hs;rw[Nat.add_sub_cancel];omega
   have gW:s.size≤40000000:=by omega
   have HS:=Lib.hid hs'
   clear hs hs'
   go_wp2_with fail
   refine(Qih B b 12 _ hT (by omega) (by omega)).mono ?_
   rintro e w2 ⟨q,rfl,q0,q1,gX,ga⟩
   have gd:Qaa (· = b) w w2:=hK.trans ga (fun _ _ e=>e)
   have lW:q<5∨q=5∨q=6∨q=7∨q=8∨(8<q):=by omega
   rcases lW with hq|rfl|rfl|rfl|rfl|hq
   ·go_wp2_with fail
    refine(Qfe B b _ gX).mono ?_
    rintro e w3 ⟨p,rfl,hp,ku,Gn⟩
    have csp:=Q6k p hp
    have Gx:=Qdh p hp
    obtain⟨c1,bz,bZ,G4⟩:=Qta p ⟨#[32,61,32]⟩ 3 rfl (by omega) (by omega)
    have csc1:=Ci.cat G4 csp (Ci.lit (l:=⟨#[32,61,32]⟩) 0 false (by decide)) (.inr (by decide))
    clear G4
    go_wp2_with fail
    refine(QXi B b _ ku).mono ?_
    rintro e w4 ⟨v,rfl,hv,csv,K6,kt⟩
    obtain⟨c2,dY,eR,mz⟩:=QCa c1 v (by omega) (by omega)
    have csc2:=Ci.app mz csc1 csv
    clear mz
    obtain⟨c3,hac3,hzc3,lX⟩:=Qta c2 ⟨#[59,32]⟩ 2 rfl (by omega) (by omega)
    have csc3:=Ci.cat lX csc2 (Ci.lit (l:=⟨#[59,32]⟩) 1 false (by decide)) (.inr (by decide))
    clear lX
    obtain⟨c4,MY,M6,Gp⟩:=QCa s c3 (by omega) (by omega)
    have csc4:=Ci.app Gp css csc3
    clear Gp
    go_wp2_with fail
    go_roundg (gk-1)
    case measure=>omega
    case rel=>exact⟨c4,r-1,rfl,by go_num,by omega,by omega,by have:=HS.out;omega,⟨_,csc4,by have:=JB.out;have:=hn.1;have:=hn.2;omega⟩,K6,(gd.trans Gn (fun _ _ e=>e)).trans kt (fun _ _ e=>e)⟩
   ·go_wp2_with fail
    refine(Qfe B b _ gX).mono ?_
    rintro e w3 ⟨p,rfl,hp,ku,Gn⟩
    have csp:=Q6k p hp
    have Gx:=Qdh p hp
    obtain⟨c1,bz,bZ,G4⟩:=Qta p ⟨#[59,32]⟩ 2 rfl (by omega) (by omega)
    have csc1:=Ci.cat G4 csp (Ci.lit (l:=⟨#[59,32]⟩) 1 false (by decide)) (.inr (by decide))
    clear G4
    obtain⟨c4,MY,M6,Gp⟩:=QCa s c1 (by omega) (by omega)
    have csc4:=Ci.app Gp css csc1
    clear Gp
    go_wp2_with fail
    go_roundg (gk-1)
    case measure=>omega
    case rel=>exact⟨c4,r-1,rfl,by go_num,by omega,by omega,by have:=HS.out;omega,⟨_,csc4,by have:=JB.out;have:=hn.1;have:=hn.2;omega⟩,ku,gd.trans Gn (fun _ _ e=>e)⟩
   ·go_wp2_with fail
    refine(Qfe B b _ gX).mono ?_
    rintro e w3 ⟨p,rfl,hp,ku,Gn⟩
    have csp:=Q6k p hp
    have Gx:=Qdh p hp
    obtain⟨c1,bz,bZ,G4⟩:=QCa ⟨#[47,100,101,108,101,116,101,45,112,114,111,112,101,114,116,121,47,32]⟩ p (by decide) (by omega)
    have csc1:=Ci.app G4 (Ci.lit (l:=⟨#[47,100,101,108,101,116,101,45,112,114,111,112,101,114,116,121,47,32]⟩) 0 false (by decide)) csp
    clear G4
    have lC:(⟨#[47,100,101,108,101,116,101,45,112,114,111,112,101,114,116,121,47,32]⟩:ByteArray).size=18:=rfl
    obtain⟨c2,dY,eR,mz⟩:=Qta c1 ⟨#[59,32]⟩ 2 rfl (by omega) (by omega)
    have csc2:=Ci.cat mz csc1 (Ci.lit (l:=⟨#[59,32]⟩) 1 false (by decide)) (.inr (by decide))
    clear mz
    obtain⟨c4,MY,M6,Gp⟩:=QCa s c2 (by omega) (by omega)
    have csc4:=Ci.app Gp css csc2
    clear Gp
    go_wp2_with fail
    go_roundg (gk-1)
    case measure=>omega
    case rel=>exact⟨c4,r-1,rfl,by go_num,by omega,by omega,by have:=HS.out;omega,⟨_,csc4,by have:=JB.out;have:=hn.1;have:=hn.2;omega⟩,ku,gd.trans Gn (fun _ _ e=>e)⟩
   ·go_wp2_with fail
    refine(QYf B b _ gX).mono ?_
    rintro e w3 ⟨p,rfl,hp,ku,Gn⟩
    have csp:=QWh p hp
    have Gx:=Que p hp
    obtain⟨c1,bz,bZ,G4⟩:=QCa ⟨#[47,100,101,108,101,116,101,45,110,111,100,101,47,32]⟩ p (by decide) (by omega)
    have csc1:=Ci.app G4 (Ci.lit (l:=⟨#[47,100,101,108,101,116,101,45,110,111,100,101,47,32]⟩) 0 false (by decide)) csp
    clear G4
    have lC:(⟨#[47,100,101,108,101,116,101,45,110,111,100,101,47,32]⟩:ByteArray).size=14:=rfl
    obtain⟨c2,dY,eR,mz⟩:=Qta c1 ⟨#[59,10]⟩ 2 rfl (by omega) (by omega)
    have csc2:=Ci.cat mz csc1 (Ci.lit (l:=⟨#[59,10]⟩) 1 false (by decide)) (.inr (by decide))
    clear mz
    obtain⟨c4,MY,M6,Gp⟩:=QCa s c2 (by omega) (by omega)
    have csc4:=Ci.app Gp css csc2
    clear Gp
    go_wp2_with fail
    go_roundg (gk-1)
    case measure=>omega
    case rel=>exact⟨c4,r-1,rfl,by go_num,by omega,by omega,by have:=HS.out;omega,⟨_,csc4,by have:=JB.out;have:=hn.1;have:=hn.2;omega⟩,ku,gd.trans Gn (fun _ _ e=>e)⟩
   ·go_wp2_with fail
    refine(Qih B b 3 _ gX (by omega) (by omega)).mono ?_
    rintro e w2b ⟨y,rfl,y0,y1,bw,dM⟩
    by_cases hy:y=0
    ·subst hy
     have lA:=bw.lt
     go_wp2_with fail
     refine(Qih B b 4 _ (bw.keeps ((Qaa.refl (fun _=>False) w2b).alloc _) (fun _ e=>e.elim)) (by omega) (by omega)).mono ?_
     rintro e w3 ⟨x,rfl,x0,x1,ku,Gn⟩
     obtain⟨x,rfl⟩:=Int.eq_ofNat_of_zero_le x0
     have hH:=(Qca.new w2b (lPh.map Value.string).toArray 9).keeps Gn (by omega)
     obtain⟨t,uD,fK⟩:=QEe lPh x (by have:lPh.length=4:=rfl;omega)
     have hc:w3.cell? ⟨w2b.heap.size,x,none⟩=some (.string t):=(hH.cell x).trans (by simp[uD])
     have kt:Qaa (fun i=>i=b) w w3:=((gd.trans dM (fun _ _ e=>e)).alloc _).trans Gn (fun _ _ e=>e)
     have htz:=QCp t fK
     have cst:=QAq t fK
     obtain⟨c1,bz,bZ,G4⟩:=QCa ⟨#[112,104,97,110,100,108,101,32,61,32,60]⟩ t (by decide) (by omega)
     have csc1:=Ci.app G4 (Ci.lit (l:=⟨#[112,104,97,110,100,108,101,32,61,32,60]⟩) 0 false (by decide)) cst
     clear G4
     have lC:(⟨#[112,104,97,110,100,108,101,32,61,32,60]⟩:ByteArray).size=11:=rfl
     obtain⟨c2,dY,eR,mz⟩:=Qta c1 ⟨#[62,59,32]⟩ 3 rfl (by omega) (by omega)
     have csc2:=Ci.cat mz csc1 (Ci.lit (l:=⟨#[62,59,32]⟩) 1 false (by decide)) (.inr (by decide))
     clear mz
     obtain⟨c4,MY,M6,Gp⟩:=QCa s c2 (by omega) (by omega)
     have csc4:=Ci.app Gp css csc2
     clear Gp
     go_wp2_with fail
     go_roundg (gk-1)
     case measure=>omega
     case rel=>exact⟨c4,r-1,rfl,by go_num,by omega,by omega,by have:=HS.out;omega,⟨_,csc4,by have:=JB.out;have:=hn.1;have:=hn.2;omega⟩,ku,kt⟩
    ·have hy':(y == 0)=false:=by rw[beq_eq_false_iff_ne];exact hy
     by_cases fB:0<d
     ·have jB:(0:Int)<(d:Int):=by omega
      go_wp2_with fail
      refine(Qih B b 2 _ bw (by omega) (by omega)).mono ?_
      rintro e w3 ⟨z,rfl,z0,z1,ku,Gn⟩
      have mO:Qaa (· = b) w w3:=(gd.trans dM (fun _ _ e=>e)).trans Gn (fun _ _ e=>e)
      have qD:z=0∨z=1:=by omega
      rcases qD with rfl|rfl
      ·go_wp2_with fail
       refine(QBc B b _ ku).mono ?_
       rintro e w4 ⟨lb,rfl,nK,cslb,K6,dN⟩
       obtain⟨l1,pF,qE,mA⟩:=Qta lb ⟨#[58,32]⟩ 2 rfl (by omega) (by omega)
       have csl1:=Ci.cat mA cslb (Ci.lit (l:=⟨#[58,32]⟩) 0 false (by decide)) (.inr (by decide))
       clear mA
       obtain⟨s1,pG,qF,gF⟩:=QCa s l1 (by omega) (by omega)
       have css1:=Ci.app gF css csl1
       clear gF
       go_wp2_with fail
       refine(QYf B b _ K6).mono ?_
       rintro e w5 ⟨nm,rfl,Mg,JZ,j8⟩
       have csnm:=QWh nm Mg
       have Gx:=Que nm Mg
       obtain⟨n1,dZ,eT,mB⟩:=Qta nm ⟨#[32,123,10]⟩ 3 rfl (by omega) (by omega)
       have csn1:=Ci.cat mB csnm (Ci.lit (l:=⟨#[32,123,10]⟩) 1 false (by decide)) (.inr (by decide))
       clear mB
       go_wp2_with fail
       refine(HR.out fB _ JZ).mono ?_
       rintro e w6 ⟨mm,rfl,nO,csmm,dS,jc⟩
       obtain⟨n2,d7,eU,mC⟩:=QCa n1 mm (by omega) (by omega)
       have csn2:=Ci.app mC csn1 csmm
       clear mC
       obtain⟨n3,d8,eV,mD⟩:=Qta n2 ⟨#[125,59,10]⟩ 3 rfl (by omega) (by omega)
       have csn3:=Ci.cat mD csn2 (Ci.lit (l:=⟨#[125,59,10]⟩) 2 false (by decide)) (.inr (by decide))
       clear mD
       obtain⟨c4,MY,M6,Gp⟩:=QCa s1 n3 (by omega) (by omega)
       have csc4:=Ci.app Gp css1 csn3
       clear Gp
       go_wp2_with fail
       go_roundg (gk-1)
       case measure=>omega
       case rel=>exact⟨c4,r-1,rfl,by go_num,by omega,by omega,by have:=HS.out;omega,⟨_,csc4,by have:=JB.out;have:=hn.1;have:=hn.2;omega⟩,dS,((mO.trans dN (fun _ _ e=>e)).trans j8 (fun _ _ e=>e)).trans jc (fun _ _ e=>e)⟩
      ·go_wp2_with fail
       refine(QYf B b _ ku).mono ?_
       rintro e w5 ⟨nm,rfl,Mg,JZ,j8⟩
       have csnm:=QWh nm Mg
       have Gx:=Que nm Mg
       obtain⟨n1,dZ,eT,mB⟩:=Qta nm ⟨#[32,123,10]⟩ 3 rfl (by omega) (by omega)
       have csn1:=Ci.cat mB csnm (Ci.lit (l:=⟨#[32,123,10]⟩) 1 false (by decide)) (.inr (by decide))
       clear mB
       go_wp2_with fail
       refine(HR.out fB _ JZ).mono ?_
       rintro e w6 ⟨mm,rfl,nO,csmm,dS,jc⟩
       obtain⟨n2,d7,eU,mC⟩:=QCa n1 mm (by omega) (by omega)
       have csn2:=Ci.app mC csn1 csmm
       clear mC
       obtain⟨n3,d8,eV,mD⟩:=Qta n2 ⟨#[125,59,10]⟩ 3 rfl (by omega) (by omega)
       have csn3:=Ci.cat mD csn2 (Ci.lit (l:=⟨#[125,59,10]⟩) 2 false (by decide)) (.inr (by decide))
       clear mD
       obtain⟨c4,MY,M6,Gp⟩:=QCa s n3 (by omega) (by omega)
       have csc4:=Ci.app Gp css csn3
       clear Gp
       go_wp2_with fail
       go_roundg (gk-1)
       case measure=>omega
       case rel=>exact⟨c4,r-1,rfl,by go_num,by omega,by omega,by have:=HS.out;omega,⟨_,csc4,by have:=JB.out;have:=hn.1;have:=hn.2;omega⟩,dS,(mO.trans j8 (fun _ _ e=>e)).trans jc (fun _ _ e=>e)⟩
     ·have jB:d=0:=by omega
      subst jB
      go_wp2_with fail
      go_roundg (gk-1)
      case measure=>omega
      case rel=>exact⟨s,r-1,rfl,by go_num,by omega,by omega,by have:=HS.out;omega,⟨_,css,by have:=JB.out;have:=hn.1;have:=hn.2;omega⟩,bw,gd.trans dM (fun _ _ e=>e)⟩
   ·have z1:(q == 5)=false:=by rw[beq_eq_false_iff_ne];omega
    have z2:(q == 6)=false:=by rw[beq_eq_false_iff_ne];omega
    have z3:(q == 7)=false:=by rw[beq_eq_false_iff_ne];omega
    have z4:(q == 8)=false:=by rw[beq_eq_false_iff_ne];omega
    by_cases fB:0<d
    ·have jB:(0:Int)<(d:Int):=by omega
     go_wp2_with fail
     refine(Qih B b 2 _ gX (by omega) (by omega)).mono ?_
     rintro e w3 ⟨z,rfl,z0,z1,ku,Gn⟩
     have mO:Qaa (· = b) w w3:=(gd).trans Gn (fun _ _ e=>e)
     have qD:z=0∨z=1:=by omega
     rcases qD with rfl|rfl
     ·go_wp2_with fail
      refine(QBc B b _ ku).mono ?_
      rintro e w4 ⟨lb,rfl,nK,cslb,K6,dN⟩
      obtain⟨l1,pF,qE,mA⟩:=Qta lb ⟨#[58,32]⟩ 2 rfl (by omega) (by omega)
      have csl1:=Ci.cat mA cslb (Ci.lit (l:=⟨#[58,32]⟩) 0 false (by decide)) (.inr (by decide))
      clear mA
      obtain⟨s1,pG,qF,gF⟩:=QCa s l1 (by omega) (by omega)
      have css1:=Ci.app gF css csl1
      clear gF
      go_wp2_with fail
      refine(QYf B b _ K6).mono ?_
      rintro e w5 ⟨nm,rfl,Mg,JZ,j8⟩
      have csnm:=QWh nm Mg
      have Gx:=Que nm Mg
      obtain⟨n1,dZ,eT,mB⟩:=Qta nm ⟨#[32,123,10]⟩ 3 rfl (by omega) (by omega)
      have csn1:=Ci.cat mB csnm (Ci.lit (l:=⟨#[32,123,10]⟩) 1 false (by decide)) (.inr (by decide))
      clear mB
      go_wp2_with fail
      refine(HR.out fB _ JZ).mono ?_
      rintro e w6 ⟨mm,rfl,nO,csmm,dS,jc⟩
      obtain⟨n2,d7,eU,mC⟩:=QCa n1 mm (by omega) (by omega)
      have csn2:=Ci.app mC csn1 csmm
      clear mC
      obtain⟨n3,d8,eV,mD⟩:=Qta n2 ⟨#[125,59,10]⟩ 3 rfl (by omega) (by omega)
      have csn3:=Ci.cat mD csn2 (Ci.lit (l:=⟨#[125,59,10]⟩) 2 false (by decide)) (.inr (by decide))
      clear mD
      obtain⟨c4,MY,M6,Gp⟩:=QCa s1 n3 (by omega) (by omega)
      have csc4:=Ci.app Gp css1 csn3
      clear Gp
      go_wp2_with fail
      go_roundg (gk-1)
      case measure=>omega
      case rel=>exact⟨c4,r-1,rfl,by go_num,by omega,by omega,by have:=HS.out;omega,⟨_,csc4,by have:=JB.out;have:=hn.1;have:=hn.2;omega⟩,dS,((mO.trans dN (fun _ _ e=>e)).trans j8 (fun _ _ e=>e)).trans jc (fun _ _ e=>e)⟩
     ·go_wp2_with fail
      refine(QYf B b _ ku).mono ?_
      rintro e w5 ⟨nm,rfl,Mg,JZ,j8⟩
      have csnm:=QWh nm Mg
      have Gx:=Que nm Mg
      obtain⟨n1,dZ,eT,mB⟩:=Qta nm ⟨#[32,123,10]⟩ 3 rfl (by omega) (by omega)
      have csn1:=Ci.cat mB csnm (Ci.lit (l:=⟨#[32,123,10]⟩) 1 false (by decide)) (.inr (by decide))
      clear mB
      go_wp2_with fail
      refine(HR.out fB _ JZ).mono ?_
      rintro e w6 ⟨mm,rfl,nO,csmm,dS,jc⟩
      obtain⟨n2,d7,eU,mC⟩:=QCa n1 mm (by omega) (by omega)
      have csn2:=Ci.app mC csn1 csmm
      clear mC
      obtain⟨n3,d8,eV,mD⟩:=Qta n2 ⟨#[125,59,10]⟩ 3 rfl (by omega) (by omega)
      have csn3:=Ci.cat mD csn2 (Ci.lit (l:=⟨#[125,59,10]⟩) 2 false (by decide)) (.inr (by decide))
      clear mD
      obtain⟨c4,MY,M6,Gp⟩:=QCa s n3 (by omega) (by omega)
      have csc4:=Ci.app Gp css csn3
      clear Gp
      go_wp2_with fail
      go_roundg (gk-1)
      case measure=>omega
      case rel=>exact⟨c4,r-1,rfl,by go_num,by omega,by omega,by have:=HS.out;omega,⟨_,csc4,by have:=JB.out;have:=hn.1;have:=hn.2;omega⟩,dS,(mO.trans j8 (fun _ _ e=>e)).trans jc (fun _ _ e=>e)⟩
    ·have jB:d=0:=by omega
     subst jB
     go_wp2_with fail
     go_roundg (gk-1)
     case measure=>omega
     case rel=>exact⟨s,r-1,rfl,by go_num,by omega,by omega,by have:=HS.out;omega,⟨_,css,by have:=JB.out;have:=hn.1;have:=hn.2;omega⟩,gX,gd⟩
  ·have lZ:r=0:=by omega
   subst lZ
   have Hh:s.size≤m:=by rw[HM.out];omega
   have aZ:ci≤4*n:=by omega
   go_wp2_with fail
   go_ret
   exact⟨s,rfl,Hh,css.le aZ,hT,hK⟩
theorem Q8g(B b:Nat):∀(d:Nat),d≤4→∀(w:World),QBd B w b→
 Calls Tryz.prog 26 #[.pointer (some ⟨b,0,none⟩),.int .i64 d] w (Qhp B b (Qip d) (Q0p d) false w):=by
 intro d
 induction d with
 | zero=>intro _;exact Q2d B b 0 800 3200 1 ⟨by omega,fun h=>by omega⟩ (by omega) (by omega) (by omega) (fun h=>by omega)
 | succ d ih=>
  intro hd
  have hm:Qip d≤1000000:=by
   have hc:d=0∨d=1∨d=2∨d=3:=by omega
   rcases hc with rfl|rfl|rfl|rfl <;> simp[Qip]
  refine Q2d B b (d+1) (Qip d+800) (4*(Qip d+800)) (Q0p d+3) ⟨by omega,fun _=>by omega⟩ (by omega) (by omega) (by omega) (fun _ w hT=>?_)
  have:=ih (by omega) w hT
  rw[show((d+1:Nat):Int)-1=(d:Int)from by omega]
  refine this.mono ?_
  rintro e w2 ⟨s,h1,h2,h3,h4⟩
  exact⟨s,h1,by omega,h3.le (by omega),h4⟩
end Go.Proofs.YtofhcgbihonckaaGreat
