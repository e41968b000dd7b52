/- bringupref05: read, where the file has not been read. | bringupref05: load. | bringupref05: load. | bringupref05: Load, Files. | The example of the chapter of includes. | include, in plain Lean: which names texts include. | bringupgrow: Files. | IncludeOthers, plain: a file that nobody includes does not matter. | The law IncludeLoads: lists of files. | The law IncludeLoads: one list of files, one name (printed by glldc.py). -/
import Derived.Test.YtofhcgbihonckaaGreatZ27
import Derived.Deep.RegionWith
import Derived.Deep.DeepCutAuto
import Derived.Test.YtofhcgbihonckaaGreatZ24
import Derived.BigQuiet
import Derived.Test.YtofhcgbihonckaaGreatZ23
import Derived.Test.YtofhcgbihonckaaGreatZ5
import Derived.Test.YtofhcgbihonckaaGreatZ33
import Derived.Deep.LoopGhost
import Derived.Test.YtofhcgbihonckaaGreatZ21
import Derived.Test.YtofhcgbihonckaaGreatZ34
import Derived.Test.YtofhcgbihonckaaGreatZ1
set_option linter.all false
set_option maxHeartbeats 8000000
namespace Go.Proofs.YtofhcgbihonckaaGreat
open Go.Lib (hid)
open Go.RowKit
def QVl(lb base:Nat)(fv ov nv:Value)(F:List Qoa)(opn:List Nat)(fr:List Int)(out:List FdT)(R:Lr)(w:World)(e:Ending)(w':World):Prop:=
 e = .returned (.tuple #[])∧Qaa (R5S lb ov nv) w w'∧match R with
  | .error (p,er)=>Qtj w' lb p er
  | .ok (ord',giv',m)=>Qff F opn ord' giv'∧∃ov' nv' fr' te' dn',Q4c w' lb base fv F ord' giv' (out++m) ov' nv' fr' te' dn'∧Q5c w ov ov'∧Q5c w nv nv'∧∀j∈opn,fr'[j]? = fr[j]?
def R5C(fuel:Nat):Prop:=∀(lb base:Nat) (fv ov nv:Value) (F:List Qoa) (opn:List Nat) (ord:List ByteArray) (giv:QBb) (out:List FdT) (fr te:List Int) (dn:List Bool) (file:Nat) (opv:Value) (w:World),Q4c w lb base fv F ord giv out ov nv fr te dn→w.ownsRow 0 3 1 opv opn.length (Qjc opn)→
    file<F.length→F.length≤8→(∀f∈F,f.text.size≤maxLen∧f.name.size≤maxLen)→(∀i j (hi:i<F.length) (hj:j<F.length),F[i].name=F[j].name→i=j)→Qmc F opn ord giv→Qff F opn ord giv→file ∉ opn→Qkd giv file=none→F.length<opn.length+fuel→
    Calls Tryz.prog 77 #[.pointer (some ⟨lb,0,none⟩),.int .i64 (file:Int),opv] w (QVl lb base fv ov nv F opn fr out (ldT F fuel opn ord giv file out.length) w)
def QNn(F:List Qoa)(fuel:Nat)(opn:List Nat)(ord:List ByteArray)(giv:QBb)(out:List FdT)(k:Nat):Lr:=match Qkd giv k with
 | some l=>QGh ord giv out l
 | none=>ldT F fuel opn ord giv k out.length
theorem Qtm{F:List Qoa}{fuel:Nat}{opn:List Nat}{out:List FdT}{d:FdT}{r:List FdT}{ord:List ByteArray}{giv:QBb}{o:List FdT}{k:Nat}(h:d.2.kind=6)(hf:Q2b F d.2.name=some k)(hk:opn.contains k=false)(kT:Qmc F opn ord giv)(hl:(out++o).length≤6000) :
 Qza (ldT F fuel opn) F opn out.length (d::r) ord giv o=match QNn F fuel opn ord giv (out++o) k with
  | .error e=>.error e
  | .ok (ord',giv',l)=>Qza (ldT F fuel opn) F opn out.length r ord' giv' (o++l):=by
 have Jm:k ∉ opn:=fun hm=>by rw[List.contains_iff_mem.2 hm]at hk;cases hk
 unfold QNn
 rw[List.length_append]at hl
 have GP:Qmb out.length o=6000-(out++o).length:=by unfold Qmb;rw[List.length_append];omega
 cases hg:Qkd giv k with
 | some l=>
  rw[Qsd h hf hk hg]
  unfold QGh
  rw[GP]
  by_cases hx:6000-(out++o).length<l.length
  ·rw[if_pos hx];simp only[if_pos hx]
  ·rw[if_neg hx];simp only[if_neg hx]
 | none=>
  rw[Q0e h hf hk hg,←List.length_append]
  cases hx:ldT F fuel opn ord giv k (out++o).length with
  | error e=>rfl
  | ok x=>
   obtain⟨o1,g1,l⟩:=x
   obtain⟨_,q⟩:=Qkh F fuel opn _ _ _ _ _ _ _ hx kT (QFb hf) Jm hg (by rw[List.length_append];omega)
   simp only
   rw[if_neg (by rw[GP];omega)]
theorem Qqp{F:List Qoa}{fuel:Nat}{opn:List Nat}{ord o:List ByteArray}{giv g:QBb}{out l:List FdT}{k:Nat}(h:QNn F fuel opn ord giv out k = .ok (o,g,l))(kT:Qmc F opn ord giv)(hk:k<F.length)(Jm:k ∉ opn)(hl:out.length≤6000):Qmc F opn o g:=by
 unfold QNn at h
 cases hg:Qkd giv k with
 | some l'=>
  rw[hg]at h
  simp only at h
  unfold QGh at h
  split at h
  ·cases h
  ·cases h;exact kT
 | none=>
  rw[hg]at h
  exact(Qkh F fuel opn _ _ _ _ _ _ _ h kT hk Jm hg hl).1
theorem Q4j{fuel:Nat}(hC:R5C fuel)(lb base:Nat)(fv ov nv:Value)(F:List Qoa)(opn:List Nat)(ord:List ByteArray)(giv:QBb)(out:List FdT)(fr te:List Int)(dn:List Bool)(k:Nat)(opv:Value)(w:World)(h:Q4c w lb base fv F ord giv out ov nv fr te dn)(hop:w.ownsRow 0 3 1 opv opn.length (Qjc opn))
 (hk:k<F.length) (hF:F.length≤8) (gn:∀f∈F,f.text.size≤maxLen∧f.name.size≤maxLen) (ae:∀i j (hi:i<F.length) (hj:j<F.length),F[i].name=F[j].name→i=j) (kT:Qmc F opn ord giv) (Ko:Qff F opn ord giv) (mj:k ∉ opn) (KN:F.length<opn.length+fuel) :
 Calls Tryz.prog 77 #[.pointer (some ⟨lb,0,none⟩),.int .i64 (k:Int),opv] w (QVl lb base fv ov nv F opn fr out (QNn F fuel opn ord giv out k) w):=by
 unfold QNn
 cases hg:Qkd giv k with
 | none=>exact hC lb base fv ov nv F opn ord giv out fr te dn k opv w h hop hk hF gn ae kT Ko mj hg KN
 | some l=>
  refine(Q4i w lb base fv ov nv F ord giv out fr te dn k opv l h (by omega) hg).mono ?_
  rintro e w' ⟨he,hk',hm⟩
  refine⟨he,hk',?_⟩
  simp only
  unfold QGh at hm ⊢
  by_cases hx:6000-out.length<l.length
  ·rw[if_pos hx]at hm ⊢
   exact hm
  ·rw[if_neg hx]at hm ⊢
   obtain⟨ov',q1,q2⟩:=hm
   exact⟨Ko,ov',nv,fr,te,dn,q1,q2,Q5c.refl _ _,fun _ _=>rfl⟩
theorem Q4c.tail{w:World}{lb base:Nat}{fv ov nv:Value}{F:List Qoa}{ord:List ByteArray}{giv:QBb}{out:List FdT}{fr te:List Int}{dn:List Bool}(h:Q4c w lb base fv F ord giv out ov nv fr te dn):w.cell? ⟨lb,27,none⟩=some (.int .i64 0)∧w.cell? ⟨lb,28,none⟩=some (.int .i64 0)∧w.cell? ⟨lb,29,none⟩=some (.int .i64 0)∧w.cell? ⟨lb,30,none⟩=some (.int .i64 0)∧w.frozen? ⟨lb,27,none⟩=false∧w.frozen? ⟨lb,28,none⟩=false∧w.frozen? ⟨lb,29,none⟩=false∧w.frozen? ⟨lb,30,none⟩=false∧w.cell? ⟨lb,0,none⟩=some fv∧w.cell? ⟨lb,1,none⟩=some ov∧lb<w.heap.size:=by
 have t27:=QJe (fv:=fv) (ov:=ov) (nv:=nv) (p:=(0,0,0)) (e:=0) h.fl h.tl h.dl
 exact⟨(h.holds.cell 27).trans ((List.getElem?_toArray ..).trans (t27 0)),(h.holds.cell 28).trans ((List.getElem?_toArray ..).trans (t27 1)),(h.holds.cell 29).trans ((List.getElem?_toArray ..).trans (t27 2)),(h.holds.cell 30).trans ((List.getElem?_toArray ..).trans (t27 3)),h.holds.free 27,h.holds.free 28,h.holds.free 29,h.holds.free 30,h.holds.cell 0,h.holds.cell 1,h.holds.lt⟩
theorem Q4c.fail{w:World}{lb base:Nat}{fv ov nv:Value}{F:List Qoa}{ord:List ByteArray}{giv:QBb}{out:List FdT}{fr te:List Int}{dn:List Bool}(h:Q4c w lb base fv F ord giv out ov nv fr te dn)(a b c e:Int)(he:e≠0):Qtj ((((w.setCell ⟨lb,27,none⟩ (.int .i64 a)).setCell ⟨lb,28,none⟩ (.int .i64 b)).setCell ⟨lb,29,none⟩ (.int .i64 c)).setCell ⟨lb,30,none⟩ (.int .i64 e)) lb (a,b,c) e∧Qaa (R5S lb ov nv) w ((((w.setCell ⟨lb,27,none⟩ (.int .i64 a)).setCell ⟨lb,28,none⟩ (.int .i64 b)).setCell ⟨lb,29,none⟩ (.int .i64 c)).setCell ⟨lb,30,none⟩ (.int .i64 e)):=by
 have gj:=((((h.holds.set 27 (.int .i64 a)).set 28 (.int .i64 b)).set 29 (.int .i64 c)).set 30 (.int .i64 e))
 simp only[List.setIfInBounds_toArray]at gj
 rw[QKd h.fl h.tl h.dl (a,b,c) e]at gj
 exact⟨⟨he,_,_,_,_,_,_,h.fl,h.tl,h.dl,gj,h.one⟩,(((((Qaa.refl (R5S lb ov nv) w).setCell (p:=⟨lb,27,none⟩) (.inr (.inl rfl)) (.int .i64 a)).setCell (p:=⟨lb,28,none⟩) (.inr (.inl rfl)) (.int .i64 b)).setCell (p:=⟨lb,29,none⟩) (.inr (.inl rfl)) (.int .i64 c)).setCell (p:=⟨lb,30,none⟩) (.inr (.inl rfl)) (.int .i64 e))⟩
theorem Q4c.fail2{w:World}{lb base:Nat}{fv ov nv:Value}{F:List Qoa}{ord:List ByteArray}{giv:QBb}{out:List FdT}{fr te:List Int}{dn:List Bool}(h:Q4c w lb base fv F ord giv out ov nv fr te dn)(a b c e0 e:Int)(he:e≠0):Qtj (((((w.setCell ⟨lb,27,none⟩ (.int .i64 a)).setCell ⟨lb,28,none⟩ (.int .i64 b)).setCell ⟨lb,29,none⟩ (.int .i64 c)).setCell ⟨lb,30,none⟩ (.int .i64 e0)).setCell ⟨lb,30,none⟩ (.int .i64 e)) lb (a,b,c) e:=by
 have gj:=(((((h.holds.set 27 (.int .i64 a)).set 28 (.int .i64 b)).set 29 (.int .i64 c)).set 30 (.int .i64 e0)).set 30 (.int .i64 e))
 simp only[List.setIfInBounds_toArray,List.set_set]at gj
 rw[QKd h.fl h.tl h.dl (a,b,c) e]at gj
 exact⟨he,_,_,_,_,_,_,h.fl,h.tl,h.dl,gj,h.one⟩
theorem Q3b{w w1 w2:World}{lb:Nat}{ov nv rv:Value}(k1:Qaa (R5S lb ov nv) w w1)(t:Q5c w nv rv)(k2:Qaa (R5S lb ov rv) w1 w2):Qaa (R5S lb ov nv) w w2:=
 k1.trans k2 (fun i hi e=>by
  rcases e with e|e|e
  ·exact .inl e
  ·exact .inr (.inl e)
  ·rcases t i e with e|e
   ·exact .inr (.inr e)
   ·omega)
theorem Q8g{w w1 w2:World}{lb:Nat}{ov ov1 nv:Value}(k1:Qaa (R5S lb ov nv) w w1)(t1:Q5c w ov ov1)(k2:Qaa (fun b=>b=lb∨ov1.ownBlock=some b) w1 w2):Qaa (R5S lb ov nv) w w2:=QId k1 t1 k2
theorem QJd{w w1 w2:World}{lb:Nat}{ov ov1 nv nv1:Value}(k1:Qaa (R5S lb ov nv) w w1)(t1:Q5c w ov ov1)(t2:Q5c w nv nv1)(k2:Qaa (R5S lb ov1 nv1) w1 w2):Qaa (R5S lb ov nv) w w2:=
 k1.trans k2 (fun i hi e=>by
  rcases e with e|e|e
  ·exact .inl e
  ·rcases t1 i e with e|e
   ·exact .inr (.inl e)
   ·omega
  ·rcases t2 i e with e|e
   ·exact .inr (.inr e)
   ·omega)
set_option maxRecDepth 100000 in
theorem Q5j(fuel:Nat)(hC:R5C fuel):R5C (fuel+1):=by
 intro lb base fv ov nv F opn ord giv out fr te dn file opv w h pi mg hF8 gn dS kT o6 mj lm KN
 have kh:=h.fl
 have H7:=h.tl
 have KL:=h.dl
 have sR:file<8:=by omega
 have q8:=hid hC
 have cw:dn[file]'(by omega)=false:=by
  rcases h.giv file (by omega) (by omega) (by omega)with⟨_,q⟩|⟨l,_,_,q,_⟩
  ·exact q
  ·rw[lm]at q;cases q
 have yi:=h.len
 obtain⟨oa,oc,rfl⟩:=h.rows.slice
 have c19:w.cell? ⟨lb,19+file,none⟩=some (.bool false):=(h.holds.cell (19+file)).trans (by rw[List.getElem?_toArray,Q3j kh H7 KL sR,cw])
 have c3:w.cell? ⟨lb,3+file,none⟩=some (.int .i64 (fr[file]'(by omega))):=(h.holds.cell (3+file)).trans (by rw[List.getElem?_toArray,QQm kh sR])
 have f3:=h.holds.free (3+file)
 have c1:w.cell? ⟨lb,1,none⟩=some (.slice oa out.length oc):=h.holds.cell 1
 have cl:=h.holds.lt
 obtain⟨Gp,g9⟩:=h.mark sR lm
 have HH:=hid h
 have MN:=hid (Gp.new ((Below.refl _ _).drew))
 have Gj:=hid g9.drew
 have l6:=hid pi
 have Ks:=hid kT
 have lY:=hid o6
 have j9:=hid mj
 have tZ:=hid lm
 have tU:=hid dS
 have nt:=hid gn
 have wg:=hid KN
 have hfI:(file:Int)<8:=by omega
 clear hC cw h Gp g9 pi kT o6 mj lm dS gn KN
 go_enter Tryz.func77,Tryz.ntmps77
 go_wp2_with fail
 go_region
 generalize (w.setCell ⟨lb,3+file,none⟩ (.int .i64 (out.length:Int))).drew=w1 at *
 clear c19 c3 f3 c1 cl
 have xw:=MN.out.files
 obtain⟨fa,fc,lk,sS,sT,fX⟩:=xw
 obtain⟨fg,fo,rfl,bt,br⟩:=fX (by omega)
 subst lk
 obtain⟨n0,t0⟩:=br file mg
 obtain⟨nm,Ko⟩:∃x,x=F[file].name:=⟨_,rfl⟩
 obtain⟨tx,kU⟩:∃x,x=F[file].text:=⟨_,rfl⟩
 rw[←Ko]at n0
 rw[←kU]at t0
 have j7:=hid Ko
 have ig:=MN.out.holds.lt
 have c0:w1.cell? ⟨lb,0,none⟩=some (.slice (some ⟨fg,fo,none⟩) F.length fc):=MN.out.holds.cell 0
 have pL:tx.size≤maxLen:=by rw[kU];exact(nt.out _ (List.getElem_mem mg)).1
 have ki:=hid (Q3p tx (file:Int) w1 pL)
 unfold Qhf QGb at ki
 have K1:=hid (show ldT F (fuel+1) opn ord giv file out.length=if (Qoe tx.data.toList file).2.2≠0 then .error ((Qoe tx.data.toList file).2.1,(Qoe tx.data.toList file).2.2)else
  match Qza (ldT F fuel (opn++[file])) F (opn++[file]) out.length (QUd file (Qoe tx.data.toList file).1) (ord++[nm]) giv []with
  | .error e=>.error e
  | .ok (o,g,out)=>.ok (o,g++[((file:Int),out)],out)from by
  rw[kU,Ko]
  have e:F.getD file ⟨⟨#[]⟩,⟨#[]⟩⟩=F[file]:=by rw[List.getD_eq_getElem?_getD,List.getElem?_eq_getElem mg];rfl
  simp only[ldT,e]
  rfl)
 have ur:=hid (Qdj tx.data.toList (file:Int))
 have lT:=hid (Qjn tx.data.toList (file:Int))
 generalize Qoe tx.data.toList (file:Int)=R at *
 obtain⟨D,⟨p1,p2,p3⟩,er⟩:=R
 simp only at ki K1 ur lT
 have hfile8:(file:Int)<(F.length:Int):=by omega
 clear br Ko kU pL
 go_wp2_with fail
 refine(by exact ki.out:Calls _ _ _ _ _).mono ?_
 rintro e w2 ⟨dv,rfl,ab,Ho⟩
 have kC:=Qca.new w2 #[.int .i64 p1,.int .i64 p2,.int .i64 p3] 27
 have gm:=Ho.alloc Ho.size (.cells #[.int .i64 p1,.int .i64 p2,.int .i64 p3] 27)
 have MP:=hid (MN.out.new gm)
 have gh:=hid (Gj.out.trans (Qaa.of_fresh gm (fun _=>False)) (fun _ _ e=>e.elim))
 have tR:=hid (ab.keeps ((Qaa.refl (fun _=>False) w2).alloc (.cells #[.int .i64 p1,.int .i64 p2,.int .i64 p3] 27)) (QLa.nil _))
 have cA:=hid gm
 by_cases he:er=0
 ·subst he
  have Hy:=MP.out
  obtain⟨na,nc,rfl⟩:=Qia Hy.names
  obtain⟨da,dc,rfl⟩:=ab.slice
  have HR:=hid (show ldT F (fuel+1) opn ord giv file out.length=(match Qza (ldT F fuel (opn++[file])) F (opn++[file]) out.length (QUd file D) (ord++[nm]) giv []with
   | .error e=>.error e
   | .ok (o,g,out)=>.ok (o,g++[((file:Int),out)],out))from by rw[K1.out,if_neg (by simp)])
  have c0':(w2.alloc (.cells #[.int .i64 p1,.int .i64 p2,.int .i64 p3] 27)).cell? ⟨lb,0,none⟩=some (.slice (some ⟨fg,fo,none⟩) F.length fc):=Hy.holds.cell 0
  have c2':(w2.alloc (.cells #[.int .i64 p1,.int .i64 p2,.int .i64 p3] 27)).cell? ⟨lb,2,none⟩=some (.slice na ord.length nc):=Hy.holds.cell 2
  have ic:=Hy.holds.lt
  have n0':=(cA.out.cell (p:=⟨fg,fo+file*2,none⟩) bt).trans n0
  have hfg3:=Nat.lt_of_lt_of_le bt cA.out.size
  have MB:=hid (lY.out.fresh tU.out mg j9.out tZ.out)
  have ip:ord.length≤8:=by have h1:=Ks.out.ord;have h2:=Ks.out.short;omega
  have wL:=hid (fun(i:Nat) (hi:i<ord.length)=>show ∃g,na=some ⟨g,0,none⟩∧g<(w2.alloc (.cells #[.int .i64 p1,.int .i64 p2,.int .i64 p3] 27)).heap.size∧(w2.alloc (.cells #[.int .i64 p1,.int .i64 p2,.int .i64 p3] 27)).cell? ⟨g,i,none⟩=some (.string ord[i])from by
   obtain⟨g,cap,e1,hg,_,hc⟩:=QVb Hy.names (by omega)
   cases e1
   refine⟨g,rfl,hg,?_⟩
   have h9:=hc i (by omega)
   rw[h9]
   unfold QDb
   simp[hi])
  clear ab Ho gm kC Hy n0 t0 c0 bt
  go_wp2_with fail
  generalize w2.alloc (.cells #[.int .i64 p1,.int .i64 p2,.int .i64 p3] 27)=w3 at *
  go_loopg [10,12,94] (ord.length) (fun f k10 k12 x wr=>∃i:Nat,k10 = .bool false∧x = .int .i64 i∧i≤ord.length∧ord.length≤i+f∧w3=wr)
  case atStart=>exact⟨0,rfl,rfl,Nat.zero_le _,by omega,rfl⟩
  case round=>
   obtain⟨i,rfl,rfl,G3,Kc,rfl⟩:=hrel
   by_cases Hh:i<ord.length
   ·obtain⟨g,rfl,hg,hc⟩:=wL.out i Hh
    have oK:(i:Int)<(ord.length:Int):=by omega
    have Hn:(ord[i].toList == nm.toList)=false:=by rw[Qwg];exact decide_eq_false (fun e=>MB.out _ (List.getElem_mem Hh) (by rw[e,j7.out]))
    generalize ord[i]=oi at *
    go_wp2_with fail
    go_roundg (gk-1)
    case measure=>omega
    case rel=>exact⟨i+1,rfl,by go_num,by omega,by omega,rfl⟩
   ·have sV:fg<base:=MP.out.flow fg rfl
    go_upto_region 16 with fail
    refine wp_region_any (by kernel_rfl) ?_
    refine QAc (ops':=Qtd) (by kernel_rfl) ?_
    refine QPj base lb fg fo file F.length fc ord.length (.slice na ord.length nc) nm (r5C (.slice (some ⟨fg,fo,none⟩) F.length fc) (.slice oa out.length oc) (.slice na ord.length nc) (fr.set file (out.length:Int)) te dn (0,0,0) 0).toArray (QDb ord) w3.drew w3.drew _ ?_ rfl rfl MP.out.names (by omega) mg MP.out.size (Qua MP.out.names MP.out.holds (by decide)) (fun e=>by have:=(Qpa MP.out.names e).2.1;omega) ?_ ?_ ⟨MP.out.holds.drew,n0'⟩ (Qaa.refl _ _) ?_
    ·rfl
    ·rfl
    ·rfl
    intro c wq nB rv Ky hq
    obtain⟨wp,rfl,dA,jl,lx⟩:=hq
    obtain⟨y114,y115,y116,y117,y118,y119,y120,y121,y122,y123,y124,y125,y126,y127,y128,y129,y130,hc⟩:=Ky.ex [114,115,116,117,118,119,120,121,122,123,124,125,126,127,128,129,130] (by kernel_rfl)
    subst hc
    simp only[List.setIfInBounds_toArray,List.set_cons_zero,List.set_cons_succ]
    obtain⟨_,_,_,Gn,gD,G6⟩:=Qro (MP.out.new ((Below.refl _ _).drew)) jl dA lx
    have Mf:=hid Gn
    have gQ:=hid (gh.out.drew.trans gD (fun _ _ e=>e))
    have JL:=hid (show Q5c w (.slice na ord.length nc) rv from fun g hg=>by
     rcases G6 g hg with e|e
     ·exact .inl e
     ·exact .inr (Nat.le_trans gh.out.size e))
    have tV:=hid (show ∀g,(Value.slice da D.length dc).ownBlock=some g→w1.heap.size≤g∧g<w3.heap.size from fun g hg=>by
     obtain⟨_,_,hr,_⟩:=tR.out
     have:=Qpa hr hg
     exact⟨this.2.1,this.1⟩)
    have iW:=hid (show ∀g,(Value.slice oa out.length oc).ownBlock=some g→g<w.heap.size from fun g hg=>by
     obtain⟨_,_,hr,_⟩:=HH.out.rows
     exact(Qpa hr hg).1)
    have hww1:w.heap.size≤w1.heap.size:=Gj.out.size
    have vY:=hid ((MP.out.new ((Below.refl _ _).drew)).fds gD (tR.out.fds.new ((Below.refl _ _).drew)) (fun g hg e=>by have:=(tV.out g hg).1;have:=iW.out g e;omega))
    have hw34:w3.heap.size≤(wp.setCell ⟨lb,2,none⟩ rv).heap.size:=gD.size
    clear Ky dA jl lx Gn gD G6 c0' c2' n0'
    obtain⟨opa,opc,rfl⟩:=Qia l6.out
    have hopl:opn.length≤8:=by have h2:=Ks.out.short;omega
    have rS:=hid (HH.out.row gQ.out l6.out (by decide) (by decide) (by decide))
    have jd:w.heap.size≤(wp.setCell ⟨lb,2,none⟩ rv).heap.size:=gQ.out.size
    go_upto_region 17 with fail
    generalize wp.setCell ⟨lb,2,none⟩ rv=w4 at *
    obtain⟨j0,jj,kV,kI,JI⟩:=info_parts QHk
    go_wp2_with (at_builtin;refine QHa _ rfl _ _ 22 22 rfl w4.heap.size 3 j0 (.int .i64 0) 1 8 Tryz.underlying22 jj kV kI JI rfl (.slice (some ⟨w4.heap.size,0,none⟩) 0 0) 0 [] rfl (Qne rfl (Nat.le_refl _)) (.slice opa opn.length opc) rfl opn.length (Qjc opn) ?d1 ?d2 ?d3 ?d4 ?_)
    case d1=>exact QOg Tryz.underlying22 (World.ownsRow.alloc rS.out _) (fun u hu=>by obtain⟨n,_,rfl⟩:=List.mem_map.1 hu;rfl)
    case d2=>unfold maxLen;omega
    case d3=>omega
    case d4=>simp
    intro v5 w5 bK bw _
    obtain⟨va5,vc5,rfl⟩:=Qia bK
    have k45:Qaa (fun _=>False) w4 w5:=((Qaa.refl (fun _=>False) w4).alloc (.cells #[] 3)).grown bw (fun g hg=>.inl (by cases hg;exact Nat.le_refl _))
    have uu:=hid bK
    have hs45:=k45.size
    have rx:=hid k45
    clear bK bw k45
    go_wp2_with (at_builtin;refine QHa _ rfl _ _ 22 22 rfl w4.heap.size 3 j0 (.int .i64 0) 1 8 Tryz.underlying22 jj kV kI JI rfl _ opn.length (Qjc opn) rfl (World.ownsRow.alloc uu.out _) _ rfl 1 [.int .i64 (file:Int)] ?e1 ?e2 ?e3 ?e4 ?_)
    case e1=>exact Src.ofSlice _ Tryz.underlying22 _ 1 1 _ rfl (Q3a _ _ _ _ rfl _ rfl) (fun u hu=>by simp at hu;rcases hu with rfl;rfl)
    case e2=>unfold maxLen;omega
    case e3=>omega
    case e4=>simp;omega
    intro v6 w6 bM bz _
    obtain⟨va6,vc6,rfl⟩:=Qia bM
    have k46:Qaa (fun _=>False) w4 w6:=(rx.out.alloc (.cells #[.int .i64 (file:Int)] 3)).grown bz (fun g hg=>.inl (by have:=(Qpa uu.out hg).2.1;omega))
    have cW:Below w4.heap.size w4 w6:=k46.below (Nat.le_refl _) (fun _ _ e=>e)
    have rt:=hid (show w6.ownsRow w4.heap.size 3 1 (.slice va6 (opn.length+1) vc6) (opn++[file]).length (Qjc (opn++[file]))from by
     rw[show Qjc (opn++[file])=Qjc opn++[.int .i64 (file:Int)]from by unfold Qjc;simp,List.length_append]
     exact bM)
    have k9:=hid (Mf.out.new cW)
    have gH:=hid (gQ.out.trans k46 (fun _ _ e=>e.elim))
    have lJ:=hid (vY.out.new cW)
    clear bM bz k46
    have hw46:=cW.size
    clear cW
    obtain⟨RR,He⟩:∃R,R=Qza (ldT F fuel (opn++[file])) F (opn++[file]) out.length (QUd file D) (ord++[nm]) giv []:=⟨_,rfl⟩
    rw[←He]at HR
    have KD:=hid He
    have rM:=hid (Ks.out.open1 mg j9.out tZ.out nm)
    have rJ:=hid (show Qff F (opn++[file]) (ord++[nm]) giv from by rw[j7.out];exact lY.out.open1 mg)
    have hdl6:D.length≤6001:=ur.out
    have dX:(opn++[file]).length=opn.length+1:=by simp
    have l5:=hid dX
    have eu:=hid (show(fr.set file (out.length:Int))[file]? = some (out.length:Int)∧∀j∈opn,(fr.set file (out.length:Int))[j]? = fr[j]? from⟨by rw[List.getElem?_set_self (by omega)],fun j hj=>by rw[List.getElem?_set_ne (fun e=>by subst e;exact j9.out hj)]⟩)
    have hbw6:base≤w6.heap.size:=k9.out.size
    generalize fr.set file (out.length:Int)=fr6 at *
    clear He dX
    go_wp2_with fail
    go_loopg [139] (D.length) (fun f x wr=>∃(q:Nat) (ord':List ByteArray) (giv':QBb) (o':List FdT) (ov' nv':Value) (fr' te':List Int) (dn':List Bool),x = .int .i64 q∧q≤D.length∧D.length≤q+f∧Hid (Q4c wr lb base (.slice (some ⟨fg,fo,none⟩) F.length fc) F ord' giv' (out++o') ov' nv' fr' te' dn')∧Hid (Qza (ldT F fuel (opn++[file])) F (opn++[file]) out.length ((QUd file D).drop q) ord' giv' o'=RR)∧Hid (Qmc F (opn++[file]) ord' giv'∧Qff F (opn++[file]) ord' giv')∧Hid (Q5c w6 (.slice oa out.length oc) ov'∧Q5c w6 rv nv')∧Hid (Qaa (R5S lb (.slice oa out.length oc) rv) w6 wr)∧Hid (∀j∈opn++[file],fr'[j]? = fr6[j]?))
    case atStart=>exact⟨0,ord++[nm],giv,[],_,rv,fr6,te,dn,rfl,Nat.zero_le _,by omega,hid (by rw[List.append_nil];exact k9.out),hid (by rw[List.drop_zero];exact KD.out.symm),hid ⟨rM.out,rJ.out⟩,hid ⟨Q5c.refl _ _,Q5c.refl _ _⟩,hid (Qaa.refl _ _),hid (fun _ _=>rfl)⟩
    case round=>
     obtain⟨q,ord',giv',o',ov',nv',fr',te',dn',rfl,dA,jl,HA,HL,HG,HT,HK,HF⟩:=hrel
     have vZ:=hid (k9.out.fds HK.out lJ.out (fun g hg e=>by have:=(tV.out g hg).1;have:=iW.out g e;omega))
     have ru:=hid (k9.out.row HK.out rt.out (by decide) (by decide) (by decide))
     have lC:w6.heap.size≤wr.heap.size:=HK.out.size
     by_cases Hh:q<D.length
     ·have tA:(q:Int)<(D.length:Int):=by omega
      have Ga:q<(QUd (file:Int) D).length:=by simp[QUd];omega
      obtain⟨gd,cd,pv,e1,fY,db,d0,d1,d2,d3,d4,d5,d6,hp⟩:=vZ.out.at q Ga
      have bm:=Q8k (file:Int) D q Hh
      obtain⟨x,hx⟩:∃x,x=(QUd (file:Int) D)[q]:=⟨_,rfl⟩
      rw[←hx]at d0 d1 d2 d4 d5 d6 hp
      rw[show((file:Int),D[q])=x from by rw[hx];simp[QUd]]at bm
      have hL:=HL.out
      rw[bm]at hL
      have cI:=hid hL
      simp only[Value.slice.injEq]at e1
      obtain⟨rfl,-,rfl⟩:=e1
      obtain⟨pa,pc,rfl⟩:=hp.slice
      have od:Below wr.heap.size wr (wr.alloc (.cells #[.int .i64 x.2.kind,.string x.2.label,.string x.2.name,.slice pa x.2.parts.length pc,.int .i64 x.1,.int .i64 x.2.line,.int .i64 x.2.col] 34)):=(Below.refl _ _).alloc (Nat.le_refl _) _
      have Ju:=hid (HA.out.new od)
      have wH:=hid ((hp.keeps (Qaa.of_fresh od (fun _=>False)) (QLa.nil _)).lower MN.out.size)
      have lS:=hid (HK.out.trans (Qaa.of_fresh od (fun _=>False)) (fun _ _ e=>e.elim))
      have lQ:=hid (Qba ru.out (Qaa.of_fresh od (fun _=>False)) (fun _ _ e=>e))
      have aU:=Qca.new wr #[.int .i64 x.2.kind,.string x.2.label,.string x.2.name,.slice pa x.2.parts.length pc,.int .i64 x.1,.int .i64 x.2.line,.int .i64 x.2.col] 34
      have pf:=HA.out.len
      clear hx bm hL hp od
      by_cases h6:x.2.kind=6
      ·have eH:=hid h6
       have sy:(x.2.kind != 6)=false:=by rw[h6];rfl
       cases hf:Q2b F x.2.name with
       | none=>
        have MA:=hid (fun wx hx=>Q7h (.slice (some ⟨fg,fo,none⟩) F.length fc) F x.2.name wx hx (by omega))
        rw[show Qrb F x.2.name = -1 from by unfold Qrb;rw[hf]]at MA
        obtain⟨m0,m1,m2,m3,m4,m5,m6⟩:=Qna aU
        have ml:=aU.lt
        obtain⟨_,_,_,c30,_,_,_,_,c0,_,cl⟩:=Ju.out.tail
        have rL:=hid aU
        clear aU h6
        go_wp2_with fail
        generalize wr.alloc (.cells #[.int .i64 x.2.kind,.string x.2.label,.string x.2.name,.slice pa x.2.parts.length pc,.int .i64 x.1,.int .i64 x.2.line,.int .i64 x.2.col] 34)=wd at *
        go_region_with (go_at_call 76;refine(by exact MA.out _ (Ju.out.files.new ((Below.refl _ _).drew)):Calls _ _ _ _ _).mono ?_;rintro e w8 ⟨rfl,G7⟩)
        all_goals
         have Hm:Below wd.heap.size wd w8:=((Below.refl wd.heap.size wd).drew).trans G7
         have GG:=hid (Ju.out.new Hm)
         have eC:=hid (Qba lQ.out (Qaa.of_fresh Hm (fun _=>False)) (fun _ _ e=>e))
         have Kz:=hid (lS.out.trans (Qaa.of_fresh Hm (fun _=>False)) (fun _ _ e=>e.elim))
         have fE:=rL.out.keeps (Qaa.of_fresh Hm (fun _=>False)) (fun e=>e)
         obtain⟨p0,p1',p2',p3',p4,p5,p6⟩:=Qna fE
         have pl:=fE.lt
         obtain⟨a27,a28,a29,a30,g27,g28,g29,g30,_,_,al⟩:=GG.out.tail
         clear G7 Hm fE
         have mC:=hid (show RR = .error (Qef x,4)from by rw[←cI.out];exact Q3d eH.out hf)
         clear hf
         go_wp2_with fail
         refine bodyPost_ret (results_none rfl _ _ _) rfl ?_
         refine⟨rfl,Q3b gH.out JL.out (((((Kz.out.setCell (p:=⟨lb,27,none⟩) (.inr (.inl rfl)) _).setCell (p:=⟨lb,28,none⟩) (.inr (.inl rfl)) _).setCell (p:=⟨lb,29,none⟩) (.inr (.inl rfl)) _).setCell (p:=⟨lb,30,none⟩) (.inr (.inl rfl)) _).setCell (p:=⟨lb,30,none⟩) (.inr (.inl rfl)) _),?_⟩
         rw[HR.out,mC.out]
         exact GG.out.fail2 x.1 x.2.line x.2.col 10 4 (by decide)
       | some k=>
        have MA:=hid (fun wx hx=>Q7h (.slice (some ⟨fg,fo,none⟩) F.length fc) F x.2.name wx hx (by omega))
        rw[show Qrb F x.2.name=(k:Int)from by unfold Qrb;rw[hf]]at MA
        obtain⟨m0,m1,m2,m3,m4,m5,m6⟩:=Qna aU
        have ml:=aU.lt
        obtain⟨_,_,_,c30,_,_,_,_,c0,_,cl⟩:=Ju.out.tail
        have rL:=hid aU
        clear aU h6
        go_wp2_with fail
        generalize wr.alloc (.cells #[.int .i64 x.2.kind,.string x.2.label,.string x.2.name,.slice pa x.2.parts.length pc,.int .i64 x.1,.int .i64 x.2.line,.int .i64 x.2.col] 34)=wd at *
        go_region_with (go_at_call 76;refine(by exact MA.out _ (Ju.out.files.new ((Below.refl _ _).drew)):Calls _ _ _ _ _).mono ?_;rintro e w8 ⟨rfl,G7⟩)
        all_goals
         have Hm:Below wd.heap.size wd w8:=((Below.refl wd.heap.size wd).drew).trans G7
         have GG:=hid (Ju.out.new Hm)
         have eC:=hid (Qba lQ.out (Qaa.of_fresh Hm (fun _=>False)) (fun _ _ e=>e))
         have Kz:=hid (lS.out.trans (Qaa.of_fresh Hm (fun _=>False)) (fun _ _ e=>e.elim))
         have fE:=rL.out.keeps (Qaa.of_fresh Hm (fun _=>False)) (fun e=>e)
         obtain⟨p0,p1',p2',p3',p4,p5,p6⟩:=Qna fE
         have pl:=fE.lt
         obtain⟨a27,a28,a29,a30,g27,g28,g29,g30,_,_,al⟩:=GG.out.tail
         clear G7 Hm fE
         have cE:=hid (QAr _ (opn++[file]) k w8 (Q3f eC.out) (by have:=l5.out;omega))
         have my:¬((k:Int)<0):=by omega
         cases MF:(opn++[file]).contains k with
         | true=>
          rw[MF]at cE
          have mC:=hid (show RR = .error (Qef x,10)from by rw[←cI.out];exact QYc eH.out hf MF)
          clear hf MF
          go_wp2_with fail
          refine(by exact cE.out:Calls _ _ _ _ _).mono ?_
          rintro e w9 ⟨rfl,rfl⟩
          go_wp2_with fail
          refine bodyPost_ret (results_none rfl _ _ _) rfl ?_
          obtain⟨f1,f2⟩:=GG.out.fail x.1 x.2.line x.2.col 10 (by decide)
          refine⟨rfl,Q3b gH.out JL.out (QJd Kz.out HT.out.1 HT.out.2 f2),?_⟩
          rw[HR.out,mC.out]
          exact f1
         | false=>
          rw[MF]at cE
          have Jm:k ∉ opn++[file]:=fun hm=>by rw[List.contains_iff_mem.2 hm]at MF;cases MF
          have HKN:=hid Jm
          have t8:=hid (QFb hf)
          have rQ:=hid (Q4j q8.out lb base _ ov' nv' F (opn++[file]) ord' giv' (out++o') fr' te' dn' k _ w8 GG.out (QMc eC.out (Nat.zero_le _)) (QFb hf) (by omega) nt.out tU.out HG.out.1 HG.out.2 Jm (by have:=l5.out;have:=wg.out;omega))
          have t9:=hid (show(match QNn F fuel (opn++[file]) ord' giv' (out++o') k with
           | .error e=>.error e
           | .ok (ord',giv',l)=>Qza (ldT F fuel (opn++[file])) F (opn++[file]) out.length ((QUd (file:Int) D).drop (q+1)) ord' giv' (o'++l))=RR from by rw[←Qtm eH.out hf MF HG.out.1 pf];exact cI.out)
          have wk:=hid (show ∀o g l,QNn F fuel (opn++[file]) ord' giv' (out++o') k = .ok (o,g,l)→Qmc F (opn++[file]) o g from fun o g l e=>Qqp e HG.out.1 (QFb hf) Jm pf)
          generalize QNn F fuel (opn++[file]) ord' giv' (out++o') k=NR at *
          clear hf MF Jm
          go_wp2_with fail
          refine(by exact cE.out:Calls _ _ _ _ _).mono ?_
          rintro e w9 ⟨rfl,rfl⟩
          go_wp2_with fail
          refine(by exact rQ.out:Calls _ _ _ _ _).mono ?_
          rintro e w10 ⟨rfl,GC,dm⟩
          have MS:=hid (QJd Kz.out HT.out.1 HT.out.2 GC)
          cases NR with
          | error e2=>
           obtain⟨pe,er2⟩:=e2
           obtain⟨vp,z1,z2,z3,z4,z5,z6,l1,l2,l3,hB,_⟩:=id dm
           have t27:=QJe (fv:=z1) (ov:=z2) (nv:=z3) (p:=pe) (e:=er2) l1 l2 l3
           have b30:w10.cell? ⟨lb,30,none⟩=some (.int .i64 er2):=(hB.cell 30).trans ((List.getElem?_toArray ..).trans (t27 3))
           have bl:=hB.lt
           have mI:=hid (show Qtj w10 lb pe er2 from dm)
           have li:(er2 != 0)=true:=by rw[bne_iff_ne];exact vp
           have mC:=hid t9.out.symm
           clear GC hB t27 vp dm
           go_wp2_with fail
           refine bodyPost_ret (results_none rfl _ _ _) rfl ?_
           refine⟨rfl,Q3b gH.out JL.out MS.out,?_⟩
           rw[HR.out,mC.out]
           exact mI.out
          | ok e2=>
           obtain⟨ord2,giv2,l2⟩:=e2
           obtain⟨Jq,ov2,nv2,fr2,te2,dn2,JN,qJ,dE,JE⟩:=dm
           obtain⟨_,_,_,b30,_,_,_,_,_,_,bl⟩:=JN.tail
           have MO:=hid (show Q4c w10 lb base _ F ord2 giv2 (out++(o'++l2)) ov2 nv2 fr2 te2 dn2 from by rw[←List.append_assoc];exact JN)
           have rr:=hid (And.intro (wk.out _ _ _ rfl) Jq)
           have Kg:=hid (And.intro (HT.out.1.trans qJ Kz.out.size) (HT.out.2.trans dE Kz.out.size))
           have rg:=hid (fun j hj=>(JE j hj).trans (HF.out j hj))
           have cG:=hid t9.out
           clear GC Jq JN qJ dE JE
           go_wp2_with fail
           go_roundg (gk-1)
           case measure=>omega
           case rel=>exact⟨q+1,ord2,giv2,o'++l2,ov2,nv2,fr2,te2,dn2,by go_num,by omega,by omega,MO,cG,rr,Kg,MS,rg⟩
      ·have sy:(x.2.kind != 6)=true:=by rw[bne_iff_ne];exact h6
       have aB:=hid (show(if Qmb out.length o'<1 then .error (Qef ([x].getD (Qmb out.length o') Q9d),3)else Qza (ldT F fuel (opn++[file])) F (opn++[file]) out.length ((QUd (file:Int) D).drop (q+1)) ord' giv' (o'++[x]))=RR from by rw[←QZe h6];exact cI.out)
       have Kf:=hid (Q0o _ lb base _ ov' nv' (.slice pa x.2.parts.length pc) F ord' giv' (out++o') fr' te' dn' x Ju.out wH.out)
       unfold QXb at Kf
       clear h6
       obtain⟨m0,m1,m2,m3,m4,m5,m6⟩:=Qna aU
       have ml:=aU.lt
       clear aU
       go_wp2_with fail
       generalize wr.alloc (.cells #[.int .i64 x.2.kind,.string x.2.label,.string x.2.name,.slice pa x.2.parts.length pc,.int .i64 x.1,.int .i64 x.2.line,.int .i64 x.2.col] 34)=wd at *
       refine(by exact Kf.out:Calls _ _ _ _ _).mono ?_
       rintro e w8 ⟨rfl,Hj,mS⟩
       by_cases bi:6000≤(out++o').length
       ·obtain⟨q1,q2⟩:=Hj bi
        have t27:=QJe (fv:=.slice (some ⟨fg,fo,none⟩) F.length fc) (ov:=ov') (nv:=nv') (p:=Qef x) (e:=3) Ju.out.fl Ju.out.tl Ju.out.dl
        have c30:w8.cell? ⟨lb,30,none⟩=some (.int .i64 3):=(q1.cell 30).trans ((List.getElem?_toArray ..).trans (t27 3))
        have cl:=q1.lt
        have GS:=hid (show Qtj w8 lb (Qef x) 3 from⟨by decide,_,_,_,_,_,_,Ju.out.fl,Ju.out.tl,Ju.out.dl,q1,Ju.out.one⟩)
        have Kz:=hid (lS.out.trans q2 (S:=R5S lb (.slice oa out.length oc) rv) (fun _ _ e=>.inl e))
        have mC:=hid (show RR = .error (Qef x,3)from by
         rw[←aB.out]
         have h0:Qmb out.length o'=0:=by unfold Qmb;rw[List.length_append]at bi;omega
         rw[h0,if_pos (by omega)]
         rfl)
        clear q1 q2 Hj mS t27
        go_wp2_with fail
        refine bodyPost_ret (results_none rfl _ _ _) rfl ?_
        refine⟨rfl,Q3b gH.out JL.out Kz.out,?_⟩
        rw[HR.out,mC.out]
        exact GS.out
       ·obtain⟨ov8,q1,q2,q3⟩:=mS (by omega)
        have c30:=q1.tail
        obtain⟨_,_,_,c30,_,_,_,_,_,_,cl⟩:=c30
        have GG:=hid (show Q4c w8 lb base _ F ord' giv' (out++(o'++[x])) ov8 nv' fr' te' dn' from by rw[←List.append_assoc];exact q1)
        have Kz:=hid (Q8g lS.out HT.out.1 q2)
        have wO:=hid (And.intro (HT.out.1.trans q3 lS.out.size) HT.out.2)
        have wn:=hid (show Qza (ldT F fuel (opn++[file])) F (opn++[file]) out.length ((QUd (file:Int) D).drop (q+1)) ord' giv' (o'++[x])=RR from by
         rw[←aB.out,if_neg (by unfold Qmb;rw[List.length_append]at bi;omega)])
        clear q1 q2 q3 Hj mS
        go_wp2_with fail
        go_roundg (gk-1)
        case measure=>omega
        case rel=>exact⟨q+1,ord',giv',o'++[x],ov8,nv',fr',te',dn',by go_num,by omega,by omega,GG,wn,HG,wO,Kz,HF⟩
     ·have tA:¬(q:Int)<(D.length:Int):=by omega
      have vQ:q=D.length:=by omega
      have hA:=HA.out
      have sZ:=HG.out.1.opn_none (k:=file) (by simp)
      have KM:fr'[file]? = some (out.length:Int):=(HF.out file (by simp)).trans eu.out.1
      have fW:file<8:=by omega
      obtain⟨oa2,oc2,rfl⟩:=hA.rows.slice
      have c1:wr.cell? ⟨lb,1,none⟩=some (.slice oa2 (out++o').length oc2):=hA.holds.cell 1
      obtain⟨t11,c11⟩:∃t:Int,wr.cell? ⟨lb,11+file,none⟩=some (.int .i64 t):=⟨_,(hA.holds.cell (11+file)).trans (by rw[List.getElem?_toArray,Q7q hA.fl hA.tl fW])⟩
      obtain⟨t19,c19⟩:∃t:Bool,wr.cell? ⟨lb,19+file,none⟩=some (.bool t):=⟨_,(hA.holds.cell (19+file)).trans (by rw[List.getElem?_toArray,Q3j hA.fl hA.tl hA.dl fW])⟩
      have f11:=hA.holds.free (11+file)
      have f19:=hA.holds.free (19+file)
      have cl:=hA.holds.lt
      have hol3:=hA.len
      obtain⟨qf,sD⟩:=hA.close fW sZ (show out.length≤(out++o').length by rw[List.length_append];omega) KM
      rw[show(out++o').drop out.length=o' from List.drop_left]at qf
      rw[show(((out++o').length:Nat):Int)=(out.length:Int)+(o'.length:Int)from by rw[List.length_append];omega]at qf sD
      have iQ:=hid qf
      have ej:=hid (QJd HK.out HT.out.1 HT.out.2 sD)
      have pM:=gH.out.size
      have wi:=hid sZ
      have mC:=hid (show RR = .ok (ord',giv',o')from by
       rw[←HL.out,vQ,Qnn]
       rfl)
      clear hA qf sD KM sZ vQ
      go_wp2_with fail
      go_region
      go_wp2_with fail
      refine bodyPost_ret (results_none rfl _ _ _) rfl ?_
      refine⟨rfl,(Q3b gH.out JL.out ej.out).drew,?_⟩
      rw[HR.out,mC.out]
      exact⟨HG.out.2.close1 wi.out,_,_,_,_,_,iQ.out.new ((Below.refl _ _).drew),fun g hg=>(HT.out.1 g hg).elim .inl (fun e=>.inr (Nat.le_trans pM e)),JL.out.trans HT.out.2 pM,fun j hj=>(HF.out j (List.mem_append_left _ hj)).trans (eu.out.2 j hj)⟩
 ·have li:(er != 0)=true:=by simpa using he
  have Hy:=MP.out
  obtain⟨q0,q1,q2,_,_,_,ql⟩:=three kC
  obtain⟨da,dc,rfl⟩:=ab.slice
  have hfl1:=Hy.fl
  have t27:=QJe (fv:=.slice (some ⟨fg,fo,none⟩) F.length fc) (ov:=.slice oa out.length oc) (nv:=nv) (p:=(0,0,0)) (e:=0) Hy.fl Hy.tl Hy.dl
  have c27:=(Hy.holds.cell 27).trans ((List.getElem?_toArray ..).trans (t27 0))
  have c28:=(Hy.holds.cell 28).trans ((List.getElem?_toArray ..).trans (t27 1))
  have c29:=(Hy.holds.cell 29).trans ((List.getElem?_toArray ..).trans (t27 2))
  have c30:=(Hy.holds.cell 30).trans ((List.getElem?_toArray ..).trans (t27 3))
  have f27:=Hy.holds.free 27
  have f28:=Hy.holds.free 28
  have f29:=Hy.holds.free 29
  have f30:=Hy.holds.free 30
  have ic:=Hy.holds.lt
  have gj:=((((Hy.holds.set 27 (.int .i64 p1)).set 28 (.int .i64 p2)).set 29 (.int .i64 p3)).set 30 (.int .i64 er))
  simp only[List.setIfInBounds_toArray]at gj
  rw[QKd Hy.fl Hy.tl Hy.dl (p1,p2,p3) er]at gj
  have kL:=hid gj
  have ry:=hid ((((gh.out.setCell (p:=⟨lb,27,none⟩) (.inr (.inl rfl)) (.int .i64 p1)).setCell (p:=⟨lb,28,none⟩) (.inr (.inl rfl)) (.int .i64 p2)).setCell (p:=⟨lb,29,none⟩) (.inr (.inl rfl)) (.int .i64 p3)).setCell (p:=⟨lb,30,none⟩) (.inr (.inl rfl)) (.int .i64 er))
  have mL:=hid (And.intro Hy.fl (And.intro Hy.tl (And.intro Hy.dl Hy.one)))
  have HE:=hid he
  clear ab Ho gm kC Hy gj t27 he
  simp only[List.getElem?_cons_zero,List.getElem?_cons_succ]at c27 c28 c29 c30
  go_wp2_with fail
  refine bodyPost_ret (results_none rfl _ _ _) rfl ?_
  refine⟨rfl,ry.out,?_⟩
  rw[K1.out,if_pos HE.out]
  exact⟨HE.out,_,_,_,_,_,_,mL.out.1,mL.out.2.1,mL.out.2.2.1,kL.out,mL.out.2.2.2⟩
theorem Q2q:∀fuel,R5C fuel:=by
 intro fuel
 induction fuel with
 | zero=>
  intro lb base fv ov nv F opn ord giv out fr te dn file opv w h _ _ _ _ _ kT _ _ _ KN
  have:=kT.short
  omega
 | succ n ih=>exact Q5j n ih
theorem QJh:∀(F seen:List Qoa),QBk seen F=true↔∃i,∃h:i<F.length,∃g∈seen++F.take i,g.name=F[i].name
 | [],seen=>by
  constructor
  ·intro h;cases h
  ·rintro ⟨i,h,_⟩;cases h
 | f::r,seen=>by
  have ih:=QJh r (seen++[f])
  unfold QBk
  rw[Bool.or_eq_true,ih,List.any_eq_true]
  constructor
  ·rintro (⟨g,hg,e⟩|⟨i,hi,g,hg,e⟩)
   ·exact⟨0,by simp,g,by simpa using hg,by simpa using e⟩
   ·exact⟨i+1,by simpa using hi,g,by simpa using hg,by simpa using e⟩
  ·rintro ⟨i,hi,g,hg,e⟩
   cases i with
   | zero=>exact .inl ⟨g,by simpa using hg,by simpa using e⟩
   | succ i=>exact .inr ⟨i,by simpa using hi,g,by simpa using hg,by simpa using e⟩
theorem QCj{F:List Qoa}{i:Nat}(hi:i<F.length):∃j,∃h:j<F.length,Q2b F F[i].name=some j∧j≤i∧F[j].name=F[i].name∧∀k (hk:k<F.length),k<j→F[k].name≠F[i].name:=by
 unfold Q2b
 cases hf:F.findIdx? (fun f=>decide (f.name=F[i].name))with
 | none=>
  rw[List.findIdx?_eq_none_iff]at hf
  have:=hf F[i] (List.getElem_mem hi)
  simp at this
 | some j=>
  rw[List.findIdx?_eq_some_iff_getElem]at hf
  obtain⟨h1,h2,h3⟩:=hf
  refine⟨j,h1,rfl,?_,by simpa using h2,fun k hk hkj=>by simpa using h3 k hkj⟩
  rcases Nat.lt_or_ge i j with c|c
  ·have:=h3 i c
   simp at this
  ·exact c
theorem Qbp{F:List Qoa}{i:Nat}(hi:i<F.length)(h:Qrb F F[i].name≠(i:Int)):QBk [] F=true:=by
 rw[QJh]
 obtain⟨j,hj,e1,e2,e3,_⟩:=QCj hi
 have Hn:j≠i:=fun e=>h (by unfold Qrb;rw[e1,e])
 refine⟨i,hi,F[j],?_,e3⟩
 rw[List.nil_append,List.mem_take_iff_getElem]
 exact⟨j,by omega,rfl⟩
theorem Quq{F:List Qoa}(h:∀i (hi:i<F.length),Qrb F F[i].name=(i:Int)):QBk [] F=false∧∀i j (hi:i<F.length) (hj:j<F.length),F[i].name=F[j].name→i=j:=by
 have hd:∀i j (hi:i<F.length) (hj:j<F.length),F[i].name=F[j].name→i=j:=by
  intro i j hi hj e
  have h1:=h i hi
  have h2:=h j hj
  rw[e,h2]at h1
  omega
 refine⟨?_,hd⟩
 rw[Bool.eq_false_iff]
 intro hx
 rw[QJh]at hx
 obtain⟨i,hi,g,hg,e⟩:=hx
 rw[List.nil_append,List.mem_take_iff_getElem]at hg
 obtain⟨j,hj,rfl⟩:=hg
 have:=hd j i (by omega) hi e
 omega
def Qah(F:List Qoa)(main:ByteArray)(w:World)(e:Ending)(w':World):Prop:=
 ∃(fv ov nv:Value) (fr te:List Int) (dn:List Bool) (p:Qag) (er:Int),fr.length=8∧te.length=8∧dn.length=8∧e = .returned (.agg (r5C fv ov nv fr te dn p er).toArray)∧Below w.heap.size w w'∧Qun fv ov nv∧
  match QSb F main with
  | .error (p',er')=>p=p'∧er=er'∧er≠0
  | .ok (ord,_,out)=>p=(0,0,0)∧er=0∧Qsa w' w.heap.size ov out∧w'.ownsRow w.heap.size 9 1 nv ord.length (QDb ord)
theorem Qrg:(Tryz.prog.info? 91).map (·.size)=some 31:=by kernel_rfl
theorem QFc{fv ov nv:Value}{fr te:List Int}{dn:List Bool}{p:Qag}{e:Int}(hf:fr.length=8)(ht:te.length=8)(hd:dn.length=8):(r5C fv ov nv fr te dn p e).toArray.size=31:=by
 rw[List.size_toArray,Q5q hf ht hd]
theorem QEg{fv ov nv:Value}{fr te:List Int}{dn:List Bool}{p:Qag}{e:Int}(h1:fv.oneCell'=true)(h2:ov.oneCell'=true)(h3:nv.oneCell'=true):(r5C fv ov nv fr te dn p e).toArray.all (·.oneCell')=true:=by
 rw[List.all_toArray,List.all_eq_true]
 intro x hx
 unfold r5C at hx
 simp only[List.mem_cons,List.mem_append,List.mem_map,List.not_mem_nil,or_false]at hx
 rcases hx with rfl|rfl|rfl|⟨_,_,rfl⟩|⟨_,_,rfl⟩|⟨_,_,rfl⟩|rfl|rfl|rfl|rfl
 all_goals first
  | exact h1
  | exact h2
  | exact h3
  | rfl
def r5Z(fv:Value):Array Value:=(r5C fv (.slice none 0 0) (.slice none 0 0) [0,0,0,0,0,0,0,0] [0,0,0,0,0,0,0,0] [false,false,false,false,false,false,false,false] (0,0,0) 0).toArray
theorem Qca.setRow{w:World}{b:Nat}{cs cs':Array Value}{t:TypeId}(h:Qca w b cs t):Qca (w.setRow b cs') b cs' t:=by
 show(w.setRow b cs').heap[b]? = _
 have h2:w.heap[b]? = some (.cells cs t (0,0)):=h
 simp[World.setRow,Array.getElem?_modify,h2]
theorem Qxc{w:World}{b:Nat}{cs':Array Value}:Qaa (· = b) w (w.setRow b cs'):=by
 refine⟨rfl,rfl,rfl,by simp[World.setRow],fun k hk hn=>?_⟩
 have Hn:¬b=k:=fun e=>hn e.symm
 show(w.setRow b cs').heap[k]? = w.heap[k]?
 simp[World.setRow,Array.getElem?_modify,Hn]
theorem QGg{id x:Nat}{pos:String}{af:Array Edge}{Q:Exit→Act→World→Prop}{c:Array Value}{w:World}{tb rb:Nat}{C old:Array Value}(h5:c.getD 5 undef = .pointer (some ⟨tb,0,none⟩))(h4:c.getD 4 undef = .pointer (some ⟨rb,0,none⟩))(hx:x<c.size)(hx4:x≠4)
 (hT:Qca w tb C 91) (hR:Qca w rb old 91) (hs:C.size=31) (hso:old.size=31) (h1:C.all (·.oneCell')=true) (hQ:Q .normal ⟨c.setIfInBounds x (.agg C),[]⟩ (w.setRow rb C)) :
 (Code.region id #[{ dst:=some x,op:=.load 91 (.tmp 5),type:=91,pos:=pos,after:=#[],guard:=none },{ dst:=none,op:=.store 91 (.tmp 4) (.tmp x),type:=0,pos:=pos,after:=af,guard:=none }] false).wp Tryz.prog Q ⟨c,[]⟩ w:=by
 refine wp_region_lit ?_
 refine wpList_load_row rfl 91 (.tmp 5) rfl tb h5 91 C (0,0) _ hT Tryz.underlying91 rfl (by rw[Qrg,hs]) ?_
 refine wpList_store_row rfl 91 (.tmp 4) (.tmp x) rfl rb C ?_ ?_ 91 old hR (by rw[Qrg,hs]) (by rw[hs,hso]) h1 ?_
 ·show(c.setIfInBounds x (.agg C)).getD 4 undef=_
  rw[←h4,Array.getD_eq_getD_getElem?,Array.getD_eq_getD_getElem?,Array.getElem?_setIfInBounds_ne (by omega)]
 ·show(c.setIfInBounds x (.agg C)).getD x undef=_
  rw[Array.getD_eq_getD_getElem?,Array.getElem?_setIfInBounds_self_of_lt hx];rfl
 ·exact hQ
set_option maxRecDepth 100000 in
theorem QPo{o:Oper}{a:Act}{w:World}{K:Act→World→Prop}{Q:Exit→Act→World→Prop}(h:o.op = .alloc 91)(hk:K (a.put o.dst (.pointer (some ⟨w.heap.size,0,none⟩))) (w.alloc (.cells (r5Z (.slice none 0 0)) 91))):o.wp Tryz.prog a w K Q:=by
 obtain⟨d,op,ty,ps,af,gd⟩:=o
 simp only at h
 subst h
 go_simp
 exact hk
theorem Qvr{P:Program}{o:Oper}{a:Act}{w:World}{K:Act→World→Prop}{Q:Exit→Act→World→Prop}{x:Operand}(h:o.op = .move x)(hk:K (a.put o.dst (a.eval x)) w):o.wp P a w K Q:=by
 unfold Oper.wp execOp;rw[h];exact hk
set_option maxRecDepth 100000 in
theorem Qsq{o:Oper}{a:Act}{w:World}{K:Act→World→Prop}{Q:Exit→Act→World→Prop}{fa:Option Addr}{fn fc:Nat}(h:o.op = .build 91 #[(0,.tmp 9)])(h9:a.tmps.getD 9 undef = .slice fa fn fc)(hk:K (a.put o.dst (.agg (r5Z (.slice fa fn fc)))) w):o.wp Tryz.prog a w K Q:=by
 obtain⟨d,op,ty,ps,af,gd⟩:=o
 simp only at h
 subst h
 simp only[Array.getD_eq_getD_getElem?]at h9
 go_simp
 exact hk
set_option maxRecDepth 100000 in
theorem Qaq{id:Nat}{p1 p2 p3 p4:String}{a1 a2 a3 a4:Array Edge}{T2:TypeId}{Q:Exit→Act→World→Prop}{c:Array Value}{w:World}{fa:Option Addr}{fn fc:Nat}{fv:Value}(lk:fv = .slice fa fn fc)(h0:c.getD 0 undef=fv)(hc:10<c.size)(h1:(r5Z fv).all (·.oneCell')=true)
 (hQ:Q .normal ⟨((c.setIfInBounds 9 fv).setIfInBounds 10 (.agg (r5Z fv))).setIfInBounds 5 (.pointer (some ⟨w.heap.size,0,none⟩)),[]⟩ ((w.alloc (.cells (r5Z (.slice none 0 0)) 91)).setRow w.heap.size (r5Z fv))) :
 (Code.region id #[{ dst:=some 9,op:=.move (.tmp 0),type:=T2,pos:=p1,after:=a1,guard:=none },{ dst:=some 10,op:=.build 91 #[(0,.tmp 9)],type:=91,pos:=p2,after:=a2,guard:=none },{ dst:=some 5,op:=.alloc 91,type:=0,pos:=p3,after:=a3,guard:=none },{ dst:=none,op:=.store 91 (.tmp 5) (.tmp 10),type:=0,pos:=p4,after:=a4,guard:=none }] false).wp Tryz.prog Q ⟨c,[]⟩ w:=by
 have e9:(c.setIfInBounds 9 fv).getD 9 undef=fv:=by
  rw[Array.getD_eq_getD_getElem?,Array.getElem?_setIfInBounds_self_of_lt (by omega)];rfl
 refine wp_region_lit ?_
 refine wpList_plain rfl fun K hK=>Qvr rfl (hK _ _ ?_)
 refine wpList_plain rfl fun K hK=>Qsq (fa:=fa) (fn:=fn) (fc:=fc) rfl (by rw[←lk,←e9,←h0];rfl) (hK _ _ ?_)
 refine wpList_plain rfl fun K hK=>QPo rfl (hK _ _ ?_)
 show wpList _ _ Q _ ⟨((c.setIfInBounds 9 (c.getD 0 undef)).setIfInBounds 10 (.agg (r5Z (.slice fa fn fc)))).setIfInBounds 5 (.pointer (some ⟨w.heap.size,0,none⟩)),[]⟩ _
 rw[h0]
 rw[←lk]
 refine wpList_store_row rfl 91 (.tmp 5) (.tmp 10) rfl w.heap.size (r5Z fv) ?_ ?_ 91 (r5Z (.slice none 0 0)) (Qca.new w _ _) (by rw[Qrg];rfl) rfl h1 ?_
 ·show Array.getD _ 5 undef=_
  rw[Array.getD_eq_getD_getElem?,Array.getElem?_setIfInBounds_self_of_lt (by simp;omega)];rfl
 ·show Array.getD _ 10 undef=_
  rw[Array.getD_eq_getD_getElem?,Array.getElem?_setIfInBounds_ne (by omega),Array.getElem?_setIfInBounds_self_of_lt (by simp;omega)];rfl
 ·exact hQ
theorem QFg{c:Array Value}{w:World}{rb:Nat}{C:Array Value}{R:Ending→World→Prop}(h4:c.getD 4 undef = .pointer (some ⟨rb,0,none⟩))(hR:Qca w rb C 91)(hs:C.size=31)(h:R (.returned (.agg C)) w) :
 bodyPost Tryz.prog Tryz.f44 R .ret ⟨c,[]⟩ w:=by
 refine⟨rfl,.agg C,?_,h⟩
 exact results_cell_row rfl c w rb 91 C (0,0) _ h4 hR Tryz.underlying91 rfl (by rw[Qrg,hs])
structure Ld5(fv:Value)(F:List Qoa)(B:Nat)(w wx:World):Prop where
 new:Below B w wx
 r:Qca wx (B+1) (r5Z fv) 91
 o:Qca wx B (r5Z (.slice none 0 0)) 91
 files:QZa wx fv F
theorem Ld5.more{fv:Value}{F:List Qoa}{B:Nat}{w wx wy:World}(h:Ld5 fv F B w wx)(k:Below wx.heap.size wx wy):Ld5 fv F B w wy:=
 ⟨h.new.trans (k.mono (Nat.le_trans (Nat.le_of_lt h.o.lt) (Nat.le_refl _))),h.r.keeps (Qaa.of_fresh k (fun _=>False)) (fun e=>e),h.o.keeps (Qaa.of_fresh k (fun _=>False)) (fun e=>e),h.files.new k⟩
theorem Q7e(fv:Value):(r5Z fv).size=31:=QFc rfl rfl rfl
def r5E(fv:Value)(e:Int):Array Value:=(r5C fv (.slice none 0 0) (.slice none 0 0) [0,0,0,0,0,0,0,0] [0,0,0,0,0,0,0,0] [false,false,false,false,false,false,false,false] (0,0,0) e).toArray
theorem QPm{fv:Value}(lk:fv.oneCell'=true){F:List Qoa}{main:ByteArray}{w wx:World}(h:Ld5 fv F w.heap.size w wx)(e:Int)(he:e≠0)(hT:QSb F main = .error ((0,0,0),e)) :
 Qca (wx.setCell ⟨w.heap.size+1,30,none⟩ (.int .i64 e)) (w.heap.size+1) (r5E fv e) 91∧Qca (wx.setCell ⟨w.heap.size+1,30,none⟩ (.int .i64 e)) w.heap.size (r5Z (.slice none 0 0)) 91∧
 Qca ((wx.setCell ⟨w.heap.size+1,30,none⟩ (.int .i64 e)).setRow w.heap.size (r5E fv e)) w.heap.size (r5E fv e) 91∧
 Qah F main w (.returned (.agg (r5E fv e))) ((wx.setCell ⟨w.heap.size+1,30,none⟩ (.int .i64 e)).setRow w.heap.size (r5E fv e)):=by
 have h1:Qca (wx.setCell ⟨w.heap.size+1,30,none⟩ (.int .i64 e)) (w.heap.size+1) (r5E fv e) 91:=by
  have:=h.r.set 30 (.int .i64 e)
  exact this
 have k1:Qaa (fun i=>i=w.heap.size+1) wx (wx.setCell ⟨w.heap.size+1,30,none⟩ (.int .i64 e)):=(Qaa.refl (fun i=>i=w.heap.size+1) wx).setCell (p:=⟨w.heap.size+1,30,none⟩) (.inr rfl) _
 have h2:=h.o.keeps k1 (by omega)
 have hb:Below w.heap.size w ((wx.setCell ⟨w.heap.size+1,30,none⟩ (.int .i64 e)).setRow w.heap.size (r5E fv e)):=
  (h.new.trans (k1.below (by have:=h.o.lt;omega) (fun i hi e=>by omega))).trans ((Qxc (b:=w.heap.size) (cs':=r5E fv e)).below (by have:=h2.lt;omega) (fun i hi e=>by omega))
 refine⟨h1,h2,Qca.setRow h2,_,_,_,_,_,_,(0,0,0),e,rfl,rfl,rfl,rfl,hb,⟨lk,rfl,rfl⟩,?_⟩
 rw[hT]
 exact⟨rfl,rfl,he⟩
theorem Q4q{w w1 w2:World}{fv fv' ov nv:Value}{F:List Qoa}{main:ByteArray}{ord:List ByteArray}{giv:QBb}{out:List FdT}{fr te:List Int}{dn:List Bool}(hL:Ld5 fv F w.heap.size w w1)(hk:Qaa (R5S (w.heap.size+1) (.slice none 0 0) (.slice none 0 0)) w1 w2)(h:Q4c w2 (w.heap.size+1) w.heap.size fv' F ord giv out ov nv fr te dn)(hT:QSb F main = .ok (ord,giv,out)) :
 Qca w2 w.heap.size (r5Z (.slice none 0 0)) 91∧(r5C fv' ov nv fr te dn (0,0,0) 0).toArray.all (·.oneCell')=true∧Qca (w2.setRow w.heap.size (r5C fv' ov nv fr te dn (0,0,0) 0).toArray) w.heap.size (r5C fv' ov nv fr te dn (0,0,0) 0).toArray 91∧
 Qah F main w (.returned (.agg (r5C fv' ov nv fr te dn (0,0,0) 0).toArray)) (w2.setRow w.heap.size (r5C fv' ov nv fr te dn (0,0,0) 0).toArray):=by
 have hS:∀i,R5S (w.heap.size+1) (.slice none 0 0) (.slice none 0 0) i→i=w.heap.size+1:=fun i hi=>by
  rcases hi with e|e|e
  ·exact e
  ·cases e
  ·cases e
 have ho:=hL.o.keeps hk (fun e=>by have:=hS _ e;omega)
 have k2:Qaa (fun i=>i=w.heap.size) w2 (w2.setRow w.heap.size (r5C fv' ov nv fr te dn (0,0,0) 0).toArray):=Qxc
 have hb:Below w.heap.size w (w2.setRow w.heap.size (r5C fv' ov nv fr te dn (0,0,0) 0).toArray):=
  (hL.new.trans (hk.below (by have:=hL.o.lt;omega) (fun i hi e=>by have:=hS _ e;omega))).trans (k2.below (by have:=ho.lt;omega) (fun i hi e=>by omega))
 have h1:fv'.oneCell'=true:=by obtain⟨_,_,rfl,_⟩:=h.files;rfl
 have h2:ov.oneCell'=true:=by obtain⟨_,_,rfl⟩:=h.rows.slice;rfl
 have h3:nv.oneCell'=true:=by obtain⟨_,_,rfl⟩:=Qia h.names;rfl
 refine⟨ho,QEg h1 h2 h3,Qca.setRow ho,_,_,_,_,_,_,(0,0,0),0,h.fl,h.tl,h.dl,rfl,hb,⟨h1,h2,h3⟩,?_⟩
 rw[hT]
 refine⟨rfl,rfl,h.rows.keeps k2 (fun g hg e=>?_) (fun b _ e cur=>⟨fun hc=>?_,fun hc=>?_⟩),Qba h.names k2 (fun g hg e=>?_)⟩
 ·obtain⟨_,_,hr,_⟩:=h.rows
  exact Q6a hr ho (by decide) (e ▸ hg)
 ·subst e
  have:=ho.symm.trans hc
  injection this with this;injection this with _ this;exact absurd this (by decide)
 ·subst e
  have:=ho.symm.trans hc
  injection this with this;injection this with _ this;exact absurd this (by decide)
 ·exact Q6a h.names ho (by decide) (e ▸ hg)
theorem Q3q{w w1 w2:World}{fv:Value}{F:List Qoa}{main:ByteArray}{p:Qag}{er:Int}(hL:Ld5 fv F w.heap.size w w1)(hk:Qaa (R5S (w.heap.size+1) (.slice none 0 0) (.slice none 0 0)) w1 w2)(h:Qtj w2 (w.heap.size+1) p er)(hT:QSb F main = .error (p,er)) :
 ∃C:Array Value,C.size=31∧Qca w2 (w.heap.size+1) C 91∧Qca w2 w.heap.size (r5Z (.slice none 0 0)) 91∧Qca (w2.setRow w.heap.size C) w.heap.size C 91∧C.all (·.oneCell')=true∧Qah F main w (.returned (.agg C)) (w2.setRow w.heap.size C):=by
 obtain⟨Hn,fv',ov,nv,fr,te,dn,hf,ht,hd,hh,h1,h2,h3⟩:=h
 have hS:∀i,R5S (w.heap.size+1) (.slice none 0 0) (.slice none 0 0) i→i=w.heap.size+1:=fun i hi=>by
  rcases hi with e|e|e
  ·exact e
  ·cases e
  ·cases e
 have ho:=hL.o.keeps hk (fun e=>by have:=hS _ e;omega)
 have k2:Qaa (fun i=>i=w.heap.size) w2 (w2.setRow w.heap.size (r5C fv' ov nv fr te dn p er).toArray):=Qxc
 have hb:Below w.heap.size w (w2.setRow w.heap.size (r5C fv' ov nv fr te dn p er).toArray):=
  (hL.new.trans (hk.below (by have:=hL.o.lt;omega) (fun i hi e=>by have:=hS _ e;omega))).trans (k2.below (by have:=ho.lt;omega) (fun i hi e=>by omega))
 refine⟨_,QFc hf ht hd,hh,ho,Qca.setRow ho,QEg h1 h2 h3,⟨_,_,_,_,_,_,p,er,hf,ht,hd,rfl,hb,⟨h1,h2,h3⟩,?_⟩⟩
 rw[hT]
 exact⟨rfl,rfl,Hn⟩
theorem Q6q{fv:Value}{F:List Qoa}{B:Nat}{w wx:World}(h:Ld5 fv F B w wx)(gS:∀g,fv.ownBlock=some g→g<B):Q4c wx (B+1) B fv F [] [] [] (.slice none 0 0) (.slice none 0 0) [0,0,0,0,0,0,0,0] [0,0,0,0,0,0,0,0] [false,false,false,false,false,false,false,false]:=
 ⟨h.r,rfl,rfl,rfl,h.files,gS,World.ownsRow_nil _ _ _ _,Qsa.nil _ _,fun k _ _ h3=>.inl ⟨rfl,by
  have hd:∀b∈[false,false,false,false,false,false,false,false],b=false:=by decide
  exact hd _ (List.getElem_mem h3)⟩,by simp,by omega,Nat.le_of_lt h.o.lt⟩
set_option maxRecDepth 100000 in
theorem QRm(fv:Value)(F:List Qoa)(main:ByteArray)(w:World)(hF:QZa w fv F)(hl:F.length≤1000)(hT:∀f∈F,f.text.size≤maxLen∧f.name.size≤maxLen) :
 Calls Tryz.prog 44 #[fv,.string main] w (Qah F main w):=by
 obtain⟨fa,fc,rfl,sS,sT,fX⟩:=id hF
 have ju:=hid hF
 have HT:=hid hT
 have H9:=hid (show 0<F.length→∀g,(Value.slice fa F.length fc).ownBlock=some g→g<w.heap.size from fun h0 g hg=>by
  obtain⟨g',o,e,h1,_⟩:=fX h0
  subst e
  cases hg
  exact h1)
 clear hF hT
 have gP:Hid ((r5Z (.slice fa F.length fc)).all (·.oneCell')=true):=hid (QEg rfl rfl rfl)
 go_enter Tryz.func44,Tryz.ntmps44
 go_upto_region 1 with fail
 generalize hW:w.alloc _=w0 at *
 have H0:Hid (Qca w0 w.heap.size (r5Z (.slice none 0 0)) 91):=hid (by rw[←hW];exact Qca.new w _ _)
 have Mz:Hid (Below w.heap.size w w0):=hid (by rw[←hW];exact(Below.refl _ _).alloc (Nat.le_refl _) _)
 have JZ:w0.heap.size=w.heap.size+1:=by rw[←hW];simp
 clear hW
 refine Qaq (fa:=fa) (fn:=F.length) (fc:=fc) (fv:=.slice fa F.length fc) rfl rfl (by simp) gP.out ?_
 simp only[List.setIfInBounds_toArray,List.set_cons_zero,List.set_cons_succ]
 generalize Value.agg (r5Z (.slice fa F.length fc))=x10
 have Gt:Hid (Ld5 (.slice fa F.length fc) F w.heap.size w ((w0.alloc (.cells (r5Z (.slice none 0 0)) 91)).setRow w0.heap.size (r5Z (.slice fa F.length fc)))):=hid (by
  have k1:Below w0.heap.size w0 (w0.alloc (.cells (r5Z (.slice none 0 0)) 91)):=(Below.refl _ _).alloc (Nat.le_refl _) _
  have k2:=(Qaa.refl (fun i=>i=w0.heap.size) w0).alloc (.cells (r5Z (.slice none 0 0)) 91) |>.trans (Qxc (b:=w0.heap.size) (cs':=r5Z (.slice fa F.length fc))) (fun _ _ e=>e)
  have k3:Below w0.heap.size w0 _:=k2.below (Nat.le_refl _) (fun i hi e=>by omega)
  refine⟨Mz.out.trans (k3.mono (by omega)),?_,H0.out.keeps (Qaa.of_fresh k3 (fun _=>False)) (fun e=>e),(ju.out.new Mz.out).new k3⟩
  rw[←JZ]
  exact Qca.setRow (Qca.new w0 _ _))
 rw[JZ]at Gt ⊢
 generalize hW:(w0.alloc _).setRow _ _=w1 at *
 have gi:w1.frozen? ⟨w.heap.size+1,30,none⟩=false:=Gt.out.r.free 30
 have gT:w1.cell? ⟨w.heap.size+1,30,none⟩=some (.int .i64 0):=Gt.out.r.cell 30
 have m9:=Gt.out.r.lt
 clear hW JZ H0 Mz
 by_cases h8:8<F.length
 ·have nE:(8:Int)<(F.length:Int):=by omega
  have kL:=hid (QPm rfl (main:=main) Gt.out 3 (by decide) (by unfold QSb;rw[if_pos h8]))
  go_upto_region 4 with fail
  refine QGg rfl rfl (by simp) (by decide) kL.out.1 kL.out.2.1 (QFc rfl rfl rfl) (Q7e _) (QEg rfl rfl rfl) ?_
  simp only[List.setIfInBounds_toArray,List.set_cons_zero,List.set_cons_succ]
  generalize Value.agg (r5E (.slice fa F.length fc) 3)=x15
  go_wp2_with fail
  exact QFg rfl kL.out.2.2.1 (QFc rfl rfl rfl) kL.out.2.2.2
 ·have nE:¬(8:Int)<(F.length:Int):=by omega
  have H8:=hid h8
  clear h8
  go_upto_region 6 with fail
  go_loopg [18] (F.length) (fun f x wr=>∃k:Nat,x = .int .i64 k∧k≤F.length∧F.length≤k+f∧Hid (∀i (h:i<F.length),i<k→Qrb F F[i].name=(i:Int))∧Hid (Ld5 (.slice fa F.length fc) F w.heap.size w wr))
  case atStart=>exact⟨0,rfl,by omega,by omega,hid (fun i h h2=>absurd h2 (by omega)),Gt⟩
  case round=>
   obtain⟨k,rfl,hk,hf,HN,HL⟩:=hrel
   have q1:wr.frozen? ⟨w.heap.size+1,30,none⟩=false:=HL.out.r.free 30
   have q2:wr.cell? ⟨w.heap.size+1,30,none⟩=some (.int .i64 0):=HL.out.r.cell 30
   have q3:=HL.out.r.lt
   clear gi gT m9
   by_cases Hh:k<F.length
   ·obtain⟨_,_,e0,_,_,Hx⟩:=HL.out.files
    cases e0
    obtain⟨g,o,e1,hg,oj⟩:=Hx (by omega)
    subst e1
    obtain⟨c0,c1⟩:=oj k Hh
    have lp:(k:Int)<(F.length:Int):=by omega
    have HX:=hid (HL.out.more ((Below.refl _ _).alloc (Nat.le_refl _) (.cells #[.string F[k].name,.string F[k].text] 46)))
    have MA:=hid (Q7h _ F F[k].name _ HX.out.files hl)
    have HK:=hid (show Qrb F F[k].name≠(k:Int)→QBk [] F=true from Qbp Hh)
    have gU:=hid (show Qrb F F[k].name=(k:Int)→∀i (h:i<F.length),i<k+1→Qrb F F[i].name=(i:Int)from fun hx i h h2=>by
     by_cases e:i=k
     ·subst e;exact hx
     ·exact HN.out i h (by omega))
    clear Hx oj
    generalize F[k].name=nm at *
    generalize F[k].text=tx at *
    go_wp2_with fail
    refine(by exact MA.out:Calls _ _ _ _ _).mono ?_
    rintro e w3 ⟨rfl,gm⟩
    have mL:=hid (HX.out.more gm)
    have r1:w3.frozen? ⟨w.heap.size+1,30,none⟩=false:=mL.out.r.free 30
    have r2:w3.cell? ⟨w.heap.size+1,30,none⟩=some (.int .i64 0):=mL.out.r.cell 30
    have r3:=mL.out.r.lt
    clear gm q1 q2 q3 c0 c1 hg
    generalize Qrb F nm=fi at *
    by_cases jR:fi=(k:Int)
    ·subst jR
     have wA:=hid (gU.out rfl)
     go_wp2_with fail
     go_roundg (gk-1)
     case measure=>omega
     case rel=>exact⟨k+1,by go_num,by omega,by omega,wA,mL⟩
    ·have kL:=hid (QPm rfl (main:=main) mL.out 5 (by decide) (by unfold QSb;rw[if_neg H8.out,if_pos (HK.out jR)]))
     go_upto_region 10 with fail
     refine QGg rfl rfl (by simp) (by decide) kL.out.1 kL.out.2.1 (QFc rfl rfl rfl) (Q7e _) (QEg rfl rfl rfl) ?_
     simp only[List.setIfInBounds_toArray,List.set_cons_zero,List.set_cons_succ]
     generalize Value.agg (r5E (.slice (some ⟨g,o,none⟩) F.length fc) 5)=x30
     go_wp2_with fail
     exact QFg rfl kL.out.2.2.1 (QFc rfl rfl rfl) kL.out.2.2.2
   ·have uP:=hid (Quq (F:=F) (fun i h=>HN.out i h (by omega)))
    have lp:¬(k:Int)<(F.length:Int):=by omega
    have MA:=hid (Q7h _ F main _ HL.out.files hl)
    have K1:=hid (show QSb F main=match Q2b F main with
     | none=>.error ((0,0,0),4)
     | some k=>ldT F (F.length+1) [] [] [] k 0 from by unfold QSb;rw[if_neg H8.out,if_neg (by rw[uP.out.1];exact Bool.false_ne_true)];cases Q2b F main <;> rfl)
    cases KM:Q2b F main with
    | none=>
     have jR:Qrb F main = -1:=by unfold Qrb;rw[KM]
     rw[jR]at MA
     rw[KM]at K1
     clear KM jR
     go_wp2_with fail
     refine(by exact MA.out:Calls _ _ _ _ _).mono ?_
     rintro e w3 ⟨rfl,gm⟩
     have mL:=hid (HL.out.more gm)
     have r1:w3.frozen? ⟨w.heap.size+1,30,none⟩=false:=mL.out.r.free 30
     have r2:w3.cell? ⟨w.heap.size+1,30,none⟩=some (.int .i64 0):=mL.out.r.cell 30
     have r3:=mL.out.r.lt
     clear gm q1 q2 q3
     have kL:=hid (QPm rfl (main:=main) mL.out 4 (by decide) K1.out)
     go_upto_region 15 with fail
     refine QGg rfl rfl (by simp) (by decide) kL.out.1 kL.out.2.1 (QFc rfl rfl rfl) (Q7e _) (QEg rfl rfl rfl) ?_
     simp only[List.setIfInBounds_toArray,List.set_cons_zero,List.set_cons_succ]
     generalize Value.agg (r5E (.slice fa F.length fc) 4)=x38
     go_wp2_with fail
     exact QFg rfl kL.out.2.2.1 (QFc rfl rfl rfl) kL.out.2.2.2
    | some n=>
     have jR:Qrb F main=(n:Int):=by unfold Qrb;rw[KM]
     have jk:=QFb KM
     rw[jR]at MA
     rw[KM]at K1
     clear KM jR
     go_wp2_with fail
     refine(by exact MA.out:Calls _ _ _ _ _).mono ?_
     rintro e w3 ⟨rfl,gm⟩
     have mL:=hid (HL.out.more gm)
     have xr:=H8.out
     have ki:=hid (Q2q (F.length+1) (w.heap.size+1) w.heap.size _ _ _ F [] [] [] [] _ _ _ n (.slice none 0 0) w3 (Q6q mL.out (H9.out (by omega))) (World.ownsRow_nil _ _ _ _) jk (by omega) HT.out uP.out.2 (QSe F) (by intro s hs;cases hs) (by simp) rfl (by simp))
     clear gm q1 q2 q3 xr
     have Mw:¬(n:Int)<0:=by omega
     go_wp2_with fail
     refine(by exact ki.out:Calls _ _ _ _ _).mono ?_
     rintro e w4 ⟨rfl,Hr,hm⟩
     have gQ:=hid Hr
     have HM:=hid hm
     clear Hr hm
     rw[List.length_nil]at HM
     have Mn:=K1.out
     generalize ldT F (F.length+1) [] [] [] n 0=R at *
     go_upto_region 17 with fail
     cases R with
     | error x=>
      obtain⟨p,er⟩:=x
      obtain⟨C,hC,hr,ho,gj,gP,Hg⟩:=Q3q mL.out gQ.out HM.out Mn
      refine QGg rfl rfl (by simp) (by decide) hr ho hC (Q7e _) gP ?_
      simp only[List.setIfInBounds_toArray,List.set_cons_zero,List.set_cons_succ]
      generalize Value.agg C=x41
      have Jy:=hid gj
      have cg:=hid Hg
      clear hr ho gj gP Hg
      go_wp2_with fail
      exact QFg rfl Jy.out hC cg.out
     | ok x=>
      obtain⟨ord,giv,out⟩:=x
      obtain⟨_,ov',nv',fr',te',dn',hA,_,_,_⟩:=HM.out
      rw[List.nil_append]at hA
      obtain⟨ho,gP,gj,Hg⟩:=Q4q mL.out gQ.out hA Mn
      refine QGg rfl rfl (by simp) (by decide) hA.holds ho (QFc hA.fl hA.tl hA.dl) (Q7e _) gP ?_
      simp only[List.setIfInBounds_toArray,List.set_cons_zero,List.set_cons_succ]
      have Jy:=hid gj
      have cg:=hid Hg
      have v7:=hid (QFc (fv:=.slice fa F.length fc) (ov:=ov') (nv:=nv') (p:=(0,0,0)) (e:=0) hA.fl hA.tl hA.dl)
      clear ho gP gj Hg
      generalize (r5C (.slice fa F.length fc) ov' nv' fr' te' dn' (0,0,0) 0).toArray=C at *
      go_wp2_with fail
      exact QFg rfl Jy.out v7.out cg.out
theorem Q6i{w1:World}{C:Array Value}:Below w1.heap.size w1 ((w1.alloc (.cells (r5Z (.slice none 0 0)) 91)).setRow w1.heap.size C)∧Qca ((w1.alloc (.cells (r5Z (.slice none 0 0)) 91)).setRow w1.heap.size C) w1.heap.size C 91:=by
 have k2:=(Qaa.refl (fun i=>i=w1.heap.size) w1).alloc (.cells (r5Z (.slice none 0 0)) 91) |>.trans (Qxc (b:=w1.heap.size) (cs':=C)) (fun _ _ e=>e)
 exact⟨k2.below (Nat.le_refl _) (fun i hi e=>by omega),Qca.setRow (Qca.new w1 _ _)⟩
set_option maxRecDepth 100000 in
theorem Q5i{a:Act}{w1:World}{C:Array Value}{ops:Array Oper}{Q:Exit→Act→World→Prop}{p1 p2:String}{a1 a2:Array Edge}(n x:Nat)(hn:n<a.tmps.size)(hx:a.tmps.getD x undef = .agg C)(gF:n≠x)(hC:C.size=31)(h1:C.all (·.oneCell')=true)
 (hQ:Q .normal ⟨a.tmps.setIfInBounds n (.pointer (some ⟨w1.heap.size,0,none⟩)),a.defers⟩ ((w1.alloc (.cells (r5Z (.slice none 0 0)) 91)).setRow w1.heap.size C)) :
 wpList Tryz.prog ops Q [{ dst:=some n,op:=.alloc 91,type:=0,pos:=p1,after:=a1,guard:=none },{ dst:=none,op:=.store 91 (.tmp n) (.tmp x),type:=0,pos:=p2,after:=a2,guard:=none }] a w1:=by
 refine wpList_plain rfl fun K hK=>QPo rfl (hK _ _ ?_)
 refine wpList_store_row rfl 91 (.tmp n) (.tmp x) rfl w1.heap.size C ?_ ?_ 91 (r5Z (.slice none 0 0)) (Qca.new w1 _ _) (by rw[Qrg,hC]) (by rw[hC];rfl) h1 ?_
 ·show(a.tmps.setIfInBounds n _).getD n undef=_
  rw[Array.getD_eq_getD_getElem?,Array.getElem?_setIfInBounds_self_of_lt hn];rfl
 ·show(a.tmps.setIfInBounds n _).getD x undef=_
  rw[Array.getD_eq_getD_getElem?,Array.getElem?_setIfInBounds_ne gF,←Array.getD_eq_getD_getElem?,hx]
 ·exact hQ
theorem Qah.one{F:List Qoa}{main:ByteArray}{w w':World}{e:Ending}(h:Qah F main w e w'):∃(fv ov nv:Value) (fr te:List Int) (dn:List Bool) (p1 p2 p3 er:Int),fr.length=8∧te.length=8∧dn.length=8∧e = .returned (.agg (r5C fv ov nv fr te dn (p1,p2,p3) er).toArray)∧Below w.heap.size w w'∧(r5C fv ov nv fr te dn (p1,p2,p3) er).toArray.all (·.oneCell')=true∧
 match QSb F main with
 | .error (p',er')=>(p1,p2,p3)=p'∧er=er'∧er≠0
 | .ok (ord,_,out)=>p1=0∧p2=0∧p3=0∧er=0∧Qsa w' w.heap.size ov out∧w'.ownsRow w.heap.size 9 1 nv ord.length (QDb ord):=by
 obtain⟨fv,ov,nv,fr,te,dn,⟨p1,p2,p3⟩,er,hf,ht,hd,rfl,hb,⟨h1,h2,h3⟩,hm⟩:=h
 refine⟨fv,ov,nv,fr,te,dn,p1,p2,p3,er,hf,ht,hd,rfl,hb,QEg h1 h2 h3,?_⟩
 cases hR:QSb F main with
 | error x=>
  rw[hR]at hm
  exact hm
 | ok x=>
  rw[hR]at hm
  obtain⟨q1,q2,q3,q4⟩:=hm
  cases q1
  exact⟨rfl,rfl,rfl,q2,q3,q4⟩
theorem Qzr{F:List Qoa}{main:ByteArray}{w1:World}{B:Nat}{ov nv:Value}{p1 p2 p3 er:Int}(hm:match QSb F main with
 | .error (p',er')=>(p1,p2,p3)=p'∧er=er'∧er≠0
 | .ok (ord,_,out)=>p1=0∧p2=0∧p3=0∧er=0∧Qsa w1 B ov out∧w1.ownsRow B 9 1 nv ord.length (QDb ord)) :
 (QQd F main).2=er∧((er≠0∧(QQd F main).1=[])∨(er=0∧w1.ownsRow B 9 1 nv (QQd F main).1.length (QDb (QQd F main).1))):=by
 unfold QQd
 cases hR:QSb F main with
 | error x=>rw[hR]at hm;exact⟨hm.2.1.symm,.inl ⟨hm.2.2,rfl⟩⟩
 | ok x=>rw[hR]at hm;exact⟨hm.2.2.2.1.symm,.inr ⟨hm.2.2.2.1,hm.2.2.2.2.2⟩⟩
theorem QBr{F:List Qoa}{main:ByteArray}{w1:World}{B:Nat}{ov nv:Value}{p1 p2 p3 er:Int}(hm:match QSb F main with
 | .error (p',er')=>(p1,p2,p3)=p'∧er=er'∧er≠0
 | .ok (ord,_,out)=>p1=0∧p2=0∧p3=0∧er=0∧Qsa w1 B ov out∧w1.ownsRow B 9 1 nv ord.length (QDb ord)) :
 (QIc F main).2=((p1,p2,p3),er)∧((er≠0∧(QIc F main).1=[])∨(er=0∧p1=0∧p2=0∧p3=0∧Qsa w1 B ov (QIc F main).1)):=by
 unfold QIc
 cases hR:QSb F main with
 | error x=>
  rw[hR]at hm
  obtain⟨h1,h2,h3⟩:=hm
  exact⟨by rw[h1,h2],.inl ⟨h3,rfl⟩⟩
 | ok x=>
  rw[hR]at hm
  obtain⟨h1,h2,h3,h4,h5,_⟩:=hm
  exact⟨by rw[h1,h2,h3,h4],.inr ⟨h4,h1,h2,h3,h5⟩⟩
theorem QTk{w:World}{b:Nat}{fv ov nv:Value}{fr te:List Int}{dn:List Bool}{p1 p2 p3 er:Int}(hf:fr.length=8)(ht:te.length=8)(hd:dn.length=8)(h:Qca w b (r5C fv ov nv fr te dn (p1,p2,p3) er).toArray 91) :
 w.cell? ⟨b,27,none⟩=some (.int .i64 p1)∧w.cell? ⟨b,28,none⟩=some (.int .i64 p2)∧w.cell? ⟨b,29,none⟩=some (.int .i64 p3)∧w.cell? ⟨b,30,none⟩=some (.int .i64 er)∧w.cell? ⟨b,1,none⟩=some ov∧w.cell? ⟨b,2,none⟩=some nv∧b<w.heap.size:=by
 have t27:=QJe (fv:=fv) (ov:=ov) (nv:=nv) (p:=(p1,p2,p3)) (e:=er) hf ht hd
 exact⟨(h.cell 27).trans ((List.getElem?_toArray ..).trans (t27 0)),(h.cell 28).trans ((List.getElem?_toArray ..).trans (t27 1)),(h.cell 29).trans ((List.getElem?_toArray ..).trans (t27 2)),(h.cell 30).trans ((List.getElem?_toArray ..).trans (t27 3)),h.cell 1,h.cell 2,h.lt⟩
set_option maxRecDepth 100000 in
theorem Qqo(fv:Value)(F:List Qoa)(main:ByteArray)(w:World)(hF:QZa w fv F)(hl:F.length≤1000)(hT:∀f∈F,f.text.size≤maxLen∧f.name.size≤maxLen) :
 Calls Tryz.prog 24 #[fv,.string main] w (Q0d F main w):=by
 obtain⟨fa,fc,rfl,_⟩:=id hF
 have K1:=hid (QRm _ F main w hF hl hT)
 unfold Q0d
 clear hT hF
 go_enter Tryz.func24,Tryz.ntmps24
 go_wp2_with fail
 refine(by exact K1.out:Calls _ _ _ _ _).mono ?_
 rintro e w1 Gh
 obtain⟨fv',ov,nv,fr,te,dn,p1,p2,p3,er,kh,H7,KL,rfl,hb,gP,hm⟩:=Gh.one
 have MH:=Qzr hm
 obtain⟨oH,MH⟩:=MH
 have lK:=hid oH
 clear oH
 have HM:=hid MH
 clear Gh hm MH
 dsimp only
 go_step
 refine Q5i 6 9 (by simp) rfl (by decide) (QFc kh H7 KL) gP ?_
 simp only[List.setIfInBounds_toArray,List.set_cons_zero,List.set_cons_succ]
 obtain⟨GM,hH⟩:=Q6i (w1:=w1) (C:=(r5C fv' ov nv fr te dn (p1,p2,p3) er).toArray)
 obtain⟨-,-,-,c30,-,c2,cl⟩:=QTk kh H7 KL hH
 generalize Value.agg (r5C fv' ov nv fr te dn (p1,p2,p3) er).toArray=x9
 have HB:=hid (hb.trans (GM.mono hb.size))
 generalize hW2:(w1.alloc (.cells (r5Z (.slice none 0 0)) 91)).setRow w1.heap.size (r5C fv' ov nv fr te dn (p1,p2,p3) er).toArray=w2 at *
 have qY:=hid GM
 clear hW2 hH hb GM gP
 rcases HM.out with⟨Hn,hN⟩|⟨he,ho⟩
 ·have li:(er != 0)=true:=by rw[bne_iff_ne];exact Hn
  have HN:=hid hN
  clear Hn hN
  go_wp2_with fail
  go_quiet (fail)
  go_wp2_with fail
  go_ret2
  exact⟨.slice none 0 0,by rw[lK.out];rfl,by rw[HN.out];exact World.ownsRow_nil _ _ _ _,below_drewN HB.out _⟩
 ·obtain⟨na,nc,rfl⟩:=Qia ho
  have HO:=hid (Qba ho (Qaa.of_fresh qY.out (fun _=>False)) (fun _ _ e=>e))
  subst he
  clear ho
  go_wp2_with fail
  go_ret2
  exact⟨_,by rw[lK.out];rfl,HO.out,HB.out⟩
set_option maxRecDepth 100000 in
theorem Q9p(fv:Value)(F:List Qoa)(main:ByteArray)(w:World)(hF:QZa w fv F)(hl:F.length≤1000)(hT:∀f∈F,f.text.size≤maxLen∧f.name.size≤maxLen) :
 Calls Tryz.prog 22 #[fv,.string main] w (Qae F main w):=by
 obtain⟨fa,fc,rfl,_⟩:=id hF
 have gR:=(Below.refl w.heap.size w).alloc (Nat.le_refl _) (.cells #[.int .i64 0,.int .i64 0,.int .i64 0] 27)
 have J8:=hid (Qca.new w #[.int .i64 0,.int .i64 0,.int .i64 0] 27)
 have iE:(w.alloc (.cells #[.int .i64 0,.int .i64 0,.int .i64 0] 27)).heap.size=w.heap.size+1:=by simp
 have K1:=hid (QRm _ F main _ (hF.new gR) hl hT)
 have Mz:=hid gR
 unfold Qae QGb
 clear hT hF gR
 go_enter Tryz.func22,Tryz.ntmps22
 go_upto_region 1 with fail
 generalize w.alloc (.cells #[.int .i64 0,.int .i64 0,.int .i64 0] 27)=w0 at *
 go_wp2_with fail
 refine(by exact K1.out:Calls _ _ _ _ _).mono ?_
 rintro e w1 Gh
 obtain⟨fv',ov,nv,fr,te,dn,p1,p2,p3,er,kh,H7,KL,rfl,hb,gP,hm⟩:=Gh.one
 have MH:=QBr hm
 obtain⟨oH,MH⟩:=MH
 have lK:=hid oH
 clear oH
 have HM:=hid MH
 clear Gh hm MH
 dsimp only
 go_step
 refine Q5i 7 10 (by simp) rfl (by decide) (QFc kh H7 KL) gP ?_
 simp only[List.setIfInBounds_toArray,List.set_cons_zero,List.set_cons_succ]
 obtain⟨GM,hH⟩:=Q6i (w1:=w1) (C:=(r5C fv' ov nv fr te dn (p1,p2,p3) er).toArray)
 obtain⟨c27,c28,c29,c30,c1,-,cl⟩:=QTk kh H7 KL hH
 generalize Value.agg (r5C fv' ov nv fr te dn (p1,p2,p3) er).toArray=x10
 have fO:=hb.trans (GM.mono hb.size)
 have HB:=hid (Mz.out.trans (fO.mono (by omega)))
 have GR:=J8.out.keeps (Qaa.of_fresh fO (fun _=>False)) (fun e=>e)
 generalize hW2:(w1.alloc (.cells (r5Z (.slice none 0 0)) 91)).setRow w1.heap.size (r5C fv' ov nv fr te dn (p1,p2,p3) er).toArray=w2 at *
 have qY:=hid GM
 obtain⟨z0,z1,z2,g0,g1,g2,zl⟩:=three GR
 have Hg:=hid (((GR.set 0 (.int .i64 p1)).set 1 (.int .i64 p2)).set 2 (.int .i64 p3))
 have Mj:=hid GR
 have hw01:=hb.size
 clear hW2 hH hb GM gP fO GR
 rcases HM.out with⟨Hn,hN⟩|⟨he,z1,z2,z3,ho⟩
 ·have li:(er != 0)=true:=by rw[bne_iff_ne];exact Hn
  have HN:=hid hN
  clear Hn hN
  have qU:=hid ((((HB.out.setCell (p:=⟨w.heap.size,0,none⟩) (Nat.le_refl _) (.int .i64 p1)).setCell (p:=⟨w.heap.size,1,none⟩) (Nat.le_refl _) (.int .i64 p2)).setCell (p:=⟨w.heap.size,2,none⟩) (Nat.le_refl _) (.int .i64 p3)).drew)
  obtain⟨r0,r1,r2,-⟩:=three (show Qca _ w.heap.size #[.int .i64 p1,.int .i64 p2,.int .i64 p3] 27 from Hg.out.drew)
  go_wp2_with fail
  go_region
  all_goals
   go_wp2_with fail
   exact bodyPost_ret (v:=.tuple #[.slice none 0 0,.agg #[.int .i64 p1,.int .i64 p2,.int .i64 p3],.int .i64 er]) (by simp[results,Tryz.results22,go_sem,r0,r1,r2]) rfl ⟨_,by rw[lK.out],by rw[HN.out];exact Qsa.nil _ _,qU.out⟩
 ·obtain⟨na,nc,rfl⟩:=ho.slice
  subst he z1 z2 z3
  have HO:=hid ((ho.new qY.out).lower (b2:=w.heap.size) (by omega))
  have qU:=hid ((((HB.out.setCell (p:=⟨w.heap.size,0,none⟩) (Nat.le_refl _) (.int .i64 0)).setCell (p:=⟨w.heap.size,1,none⟩) (Nat.le_refl _) (.int .i64 0)).setCell (p:=⟨w.heap.size,2,none⟩) (Nat.le_refl _) (.int .i64 0)))
  have qw:=(((Mj.out.set 0 (.int .i64 0)).set 1 (.int .i64 0)).set 2 (.int .i64 0))
  obtain⟨r0,r1,r2,-⟩:=three (show Qca _ w.heap.size #[.int .i64 0,.int .i64 0,.int .i64 0] 27 from qw)
  have kq:Qaa (· = w.heap.size) w2 (((w2.setCell ⟨w.heap.size,0,none⟩ (.int .i64 0)).setCell ⟨w.heap.size,1,none⟩ (.int .i64 0)).setCell ⟨w.heap.size,2,none⟩ (.int .i64 0)):=(((Qaa.refl (· = w.heap.size) w2).setCell (p:=⟨w.heap.size,0,none⟩) (.inr rfl) _).setCell (p:=⟨w.heap.size,1,none⟩) (.inr rfl) _).setCell (p:=⟨w.heap.size,2,none⟩) (.inr rfl) _
  have wD:=hid (HO.out.side kq (fun b e=>by subst e;exact⟨_,Mj.out⟩))
  clear ho qw kq
  go_wp2_with fail
  exact bodyPost_ret (v:=.tuple #[.slice na (QIc F main).1.length nc,.agg #[.int .i64 0,.int .i64 0,.int .i64 0],.int .i64 0]) (by simp[results,Tryz.results22,go_sem,r0,r1,r2]) rfl ⟨_,by rw[lK.out],wD.out,qU.out⟩
def exF:List Qoa:=[⟨⟨#[109,97,105,110]⟩,⟨#[47,105,110,99,108,117,100,101,47,32,34,97,34,59,32,47,32,123,32,112,59,32,125,59]⟩⟩,⟨⟨#[97]⟩,⟨#[47,32,123,32,113,59,32,125,59]⟩⟩]
theorem QMn:(QIc exF ⟨#[109,97,105,110]⟩).2=((0,0,0),0)∧(QIc exF ⟨#[109,97,105,110]⟩).1.length=6∧((QIc exF ⟨#[109,97,105,110]⟩).1[1]?).map (fun x=>(x.1,x.2.name))=some (1,⟨#[113]⟩)∧((QIc exF ⟨#[109,97,105,110]⟩).1[4]?).map (fun x=>(x.1,x.2.name))=some (0,⟨#[112]⟩):=
 ⟨by kernel_rfl,by kernel_rfl,by kernel_rfl,by kernel_rfl⟩
theorem QLj{w:World}(h:QFf w):0<w.heap.size:=by
 obtain⟨m,h⟩:=h
 have:=World.block_lt_of_cell? w _ h
 exact this
theorem QLn{w:World}{base:Nat}{v:Value}{D:List FdT}(h:Qsa w base v D)(hl:D.length=6)(h1:(D[1]?).map (fun x=>(x.1,x.2.name))=some (1,⟨#[113]⟩))(h4:(D[4]?).map (fun x=>(x.1,x.2.name))=some (0,⟨#[112]⟩)) :
 ∃g c,v = .slice (some ⟨g,0,none⟩) 6 c∧w.cell? ⟨g,9,none⟩=some (.string ⟨#[113]⟩)∧w.cell? ⟨g,11,none⟩=some (.int .i64 1)∧w.cell? ⟨g,30,none⟩=some (.string ⟨#[112]⟩)∧w.cell? ⟨g,32,none⟩=some (.int .i64 0)∧g<w.heap.size:=by
 obtain⟨g,c,pv,rfl,g1,_,_,_,b2,_,b4,_⟩:=h.at 1 (by omega)
 obtain⟨g',c',pv',e,_,_,_,_,d2,_,d4,_⟩:=h.at 4 (by omega)
 cases e
 rw[List.getElem?_eq_getElem (by omega)]at h1 h4
 simp only[Option.map_some,Option.some.injEq,Prod.mk.injEq]at h1 h4
 rw[hl]
 exact⟨g,c,rfl,by rw[←h1.2];exact b2,by rw[←h1.1];exact b4,by rw[←h4.2];exact d2,by rw[←h4.1];exact d4,g1⟩
set_option maxRecDepth 100000 in
theorem QJj(w:World)(h0:QFf w):Calls Tryz.prog 20 #[] w fun e w'=>e = .returned (.bool true)∧Below w.heap.size w w':=by
 have gR:=(Below.refl w.heap.size w).alloc (Nat.le_refl _) (.cells #[.string ⟨#[109,97,105,110]⟩,.string ⟨#[47,105,110,99,108,117,100,101,47,32,34,97,34,59,32,47,32,123,32,112,59,32,125,59]⟩,.string ⟨#[97]⟩,.string ⟨#[47,32,123,32,113,59,32,125,59]⟩] 46)
 have hH:=Qca.new w #[.string ⟨#[109,97,105,110]⟩,.string ⟨#[47,105,110,99,108,117,100,101,47,32,34,97,34,59,32,47,32,123,32,112,59,32,125,59]⟩,.string ⟨#[97]⟩,.string ⟨#[47,32,123,32,113,59,32,125,59]⟩] 46
 generalize KX:w.alloc (.cells #[.string ⟨#[109,97,105,110]⟩,.string ⟨#[47,105,110,99,108,117,100,101,47,32,34,97,34,59,32,47,32,123,32,112,59,32,125,59]⟩,.string ⟨#[97]⟩,.string ⟨#[47,32,123,32,113,59,32,125,59]⟩] 46)=w1 at *
 have hF:QZa w1 (.slice (some ⟨w.heap.size,0,none⟩) 2 2) exF:=⟨_,2,rfl,by decide,by decide,fun _=>⟨w.heap.size,0,rfl,hH.lt,fun i hi=>by
  have h2:i=0∨i=1:=by have:exF.length=2:=rfl;omega
  rcases h2 with rfl|rfl
  ·exact⟨hH.cell 0,hH.cell 1⟩
  ·exact⟨hH.cell 2,hH.cell 3⟩⟩⟩
 have bQ:=QLj h0
 have gM:=QEk _ exF ⟨#[109,97,105,110]⟩ w1 hF (fun _ g e=>by have e2:w.heap.size=g:=Option.some.inj e;have:=hH.lt;omega) (by decide) (by decide) (h0.keeps (Qaa.of_fresh gR (fun _=>False)) (fun e=>e)) (by have:=hH.lt;omega)
 obtain⟨x1,x2,x3,x4⟩:=QMn
 unfold Qae at gM
 generalize QIc exF ⟨#[109,97,105,110]⟩=R at *
 obtain⟨D,⟨p1,p2,p3⟩,er⟩:=R
 simp only[Prod.mk.injEq]at x1 x2 x3 x4
 obtain⟨⟨rfl,rfl,rfl⟩,rfl⟩:=x1
 unfold QGb at gM
 have ki:=hid gM
 have Mz:=hid gR
 have kJ:=hid KX
 clear h0 hF gM hH gR KX
 go_enter Tryz.func20,Tryz.ntmps20
 go_wp2_with fail
 rw[kJ.out]
 refine(by exact ki.out:Calls _ _ _ _ _).mono ?_
 rintro e w2 ⟨v,rfl,hD,hb⟩
 obtain⟨g,c,rfl,e1,e2,e3,e4,g1⟩:=QLn hD x2 x3 x4
 have vU:=hid ((Mz.out.trans (hb.mono Mz.out.size)).alloc (by have:=hb.size;have:=Mz.out.size;omega) (.cells #[.int .i64 0,.int .i64 0,.int .i64 0] 27))
 clear hD x2 x3 x4 hb
 go_wp2_with fail
 go_ret
 exact⟨rfl,vU.out⟩
section
variable(L:List Tok)
end
def QYg:List ByteArray:=[⟨#[109,97,105,110]⟩,⟨#[97]⟩,⟨#[98]⟩,⟨#[99]⟩,⟨#[100]⟩]
theorem QOn:∀s∈QYg,(noC ([47,105,110,99,108,117,100,101,47,32,34]++s.data.toList++[34,59,10]) && decide (Qap ([47,105,110,99,108,117,100,101,47,32,34]++s.data.toList++[34,59,10])≤1) && !QNl ([47,105,110,99,108,117,100,101,47,32,34]++s.data.toList++[34,59,10]))=true:=by decide
theorem Qpm:∀s∈QYg,s.size≤4:=by decide
theorem QEm:∀s∈Qvp,s.size≤20:=by decide
theorem QJp:∀s∈Qvp,noO s.data.toList=true:=by decide
theorem QYf(s:ByteArray)(hs:s∈QYg)(t:ByteArray)(ht:t.size≤1000000):∃l1 l2 t2:ByteArray,QSc ⟨#[47,105,110,99,108,117,100,101,47,32,34]⟩ s l1∧QSc l1 ⟨#[34,59,10]⟩ l2∧QSc t l2 t2∧t2.size≤t.size+18∧(∀c,Cs t c false→Cs t2 (c+1) false):=by
 have hz:=Qpm s hs
 have e1:(⟨#[47,105,110,99,108,117,100,101,47,32,34]⟩:ByteArray).size=11:=rfl
 have e3:(⟨#[34,59,10]⟩:ByteArray).size=3:=rfl
 obtain⟨l1,h1,z1,q1⟩:=QKb ⟨#[47,105,110,99,108,117,100,101,47,32,34]⟩ s (by omega)
 obtain⟨l2,h2,z2,q2⟩:=QKb l1 ⟨#[34,59,10]⟩ (by omega)
 obtain⟨t2,h3,z3,q3⟩:=QKb t l2 (by omega)
 refine⟨l1,l2,t2,h1,h2,h3,by omega,fun c hc=>?_⟩
 have hl:Cs l2 1 false:=Cs.lit 1 false (by rw[q2,q1];simpa using QOn s hs)
 exact Cs.app q3 hc hl
structure QMr(i:Nat)(f:Qoa):Prop where
 name:QYg[i]? = some f.name
 size:f.text.size≤100000
 no:noO f.text.data.toList=true
def Q9f(F:List Qoa):Prop:=∀i (h:i<F.length),QMr i F[i]
def Q6o(B b:Nat)(w:World)(e:Ending)(w':World):Prop:=
 ∃v F,e = .returned v∧w'.ownsRow w.heap.size 46 2 v F.length (QCa F)∧Q9f F∧1≤F.length∧F.length≤5∧Q3c B w' b∧Qaa (· = b) w w'
def GfO(B b NB n:Nat)(w:World)(f:Nat)(x y:Value)(wr:World):Prop:=
 ∃(i:Nat) (F:List Qoa),y = .int .i64 i∧i≤n∧n≤i+f∧F.length=i∧wr.ownsRow w.heap.size 46 2 x i (QCa F)∧Q9f F∧Qca wr NB (QYg.map Value.string).toArray 9∧Q3c B wr b∧Qaa (· = b) w wr
def GfI(B b NB:Nat)(w wo:World)(f:Nat)(x y:Value)(wr:World):Prop:=
 ∃(t:ByteArray) (r c:Nat),x = .string t∧y = .int .i64 r∧r≤f∧r≤3∧t.size+20000*r≤60000∧Cs t c false∧Q3c B wr b∧Qaa (· = b) wo wr
set_option maxRecDepth 100000 in
theorem Qhl(B b:Nat)(w:World)(h:Q3c B w b) :
 Calls Tryz.prog 17 #[.pointer (some ⟨b,0,none⟩)] w (Q6o B b w):=by
 have Hh:=h.lt
 have nT:=h.1
 have vg:=h.keeps ((Qaa.refl (fun _=>False) w).alloc (.cells (QYg.map Value.string).toArray 9)) (fun _ e=>e.elim)
 have dN:=Qca.new w (QYg.map Value.string).toArray 9
 have uT:Qaa (· = b) w (w.alloc (.cells (QYg.map Value.string).toArray 9)):=(Qaa.refl (· = b) w).alloc _
 have lN:=hid dN
 have K0:=hid uT
 clear dN uT
 go_enter Tryz.func17,Tryz.ntmps17
 go_wp2_with fail
 refine(Q1f B b 1 5 _ (by exact vg) (by omega) (by omega) (by omega)).mono ?_
 rintro e w1 ⟨n,rfl,n0,n1,hT,hK⟩
 obtain⟨n,rfl⟩:=Int.eq_ofNat_of_zero_le (show 0≤n by omega)
 have pV:=hid (lN.out.keeps hK (by have:=lN.out.lt;omega))
 have Gj:=hid (K0.out.trans hK (fun _ _ e=>e))
 have hn5:n≤5:=by omega
 obtain⟨y0,qM,kV,kI,JI⟩:=info_parts QVe
 clear vg hK
 go_wp2_with fail
 go_loopg [4,6] n (fun f x y wr=>GfO B b w.heap.size n w f x y wr)
 case atStart=>exact⟨0,[],rfl,by omega,by omega,rfl,World.ownsRow_nil _ _ _ _,(fun i h=>by cases h),pV.out,hT,Gj.out⟩
 case round=>
  clear hT
  obtain⟨i,F,rfl,G3,Kc,uQ,Hc,nI,uS,hT,hK⟩:=hrel
  obtain⟨go,rfl⟩:∃x:Nat,x=gk:=⟨_,rfl⟩
  obtain⟨wo,rfl⟩:∃x:World,x=wr:=⟨_,rfl⟩
  obtain⟨ra,rc,rfl⟩:=Qia Hc
  have Gu:=hid Hc
  have jt:=hid nI
  have dJ:=hid uS
  have HK:=hid hK
  have Gz:=hid uQ
  clear Hc nI uS hK uQ
  by_cases kp:i<n
  ·have qz:(i:Int)<(n:Int):=by omega
   go_wp2_with fail
   refine(Qge B b 4 _ hT (by omega) (by omega)).mono ?_
   rintro e w2 ⟨r,rfl,r0,r1,gN,ga⟩
   obtain⟨r,rfl⟩:=Int.eq_ofNat_of_zero_le r0
   clear hT
   go_wp2_with fail
   go_loopg [7,8] r (fun f x y wr=>GfI B b w.heap.size w wo f x y wr)
   case atStart=>exact⟨ByteArray.empty,r,0,rfl,rfl,by omega,by omega,by rw[show ByteArray.empty.size=0 from rfl];omega,Cs.empty,gN,ga⟩
   case round=>
    clear gN ga
    obtain⟨t,q,c,rfl,rfl,hqf,lx,hts,Hx,hT,hK⟩:=hrel
    by_cases hq0:0<q
    ·go_wp2_with fail
     refine(Qge B b 4 _ hT (by omega) (by omega)).mono ?_
     rintro e w3 ⟨z,rfl,z0,z1,G5,gc⟩
     have pT:z=0∨z=1∨2≤z:=by omega
     rcases pT with rfl|rfl|GA
     ·go_wp2_with fail
      refine(Qge B b n _ G5 (by omega) (by omega)).mono ?_
      rintro e w4 ⟨r1,rfl,r10,r11,G6,gD⟩
      obtain⟨r1,rfl⟩:=Int.eq_ofNat_of_zero_le r10
      have GL:Qaa (· = b) wo w4:=(hK.trans gc (fun _ _ e=>e)).trans gD (fun _ _ e=>e)
      go_wp2_with fail
      refine(Qge B b 12 _ G6 (by omega) (by omega)).mono ?_
      rintro e w5 ⟨y,rfl,y00,y01,Mt,Ku⟩
      have jz:Qaa (· = b) wo w5:=GL.trans Ku (fun _ _ e=>e)
      by_cases hy11:y=11
      ·subst hy11
       go_wp2_with fail
       refine(Qge B b n _ Mt (by omega) (by omega)).mono ?_
       rintro e w6 ⟨jn,rfl,j0,j1,a9,jA⟩
       obtain⟨jn,rfl⟩:=Int.eq_ofNat_of_zero_le j0
       have Ml:Qaa (· = b) wo w6:=jz.trans jA (fun _ _ e=>e)
       by_cases hj:jn<n
       ·have ia:(jn:Int)<(n:Int):=by omega
        obtain⟨s,gy,gB⟩:=QTb QYg jn (by have:QYg.length=5:=rfl;omega)
        have hH:=dJ.out.keeps Ml (by omega)
        have hc:w6.cell? ⟨w.heap.size,jn,none⟩=some (.string s):=(hH.cell jn).trans (by simp[gy])
        have ke:=hH.lt
        obtain⟨l1,l2,t2,a1,a2,a3,hz,fQ⟩:=QYf s gB t (by omega)
        unfold QSc at a1 a2 a3
        clear hH gy
        go_wp2_with fail
        go_roundg (gk-1)
        case measure=>omega
        case rel=>exact⟨t2,q-1,c+1,rfl,by go_num,by omega,by omega,by omega,fQ c Hx,a9,Ml⟩
       ·omega
      ·have pR:(y == 11)=false:=by rw[beq_eq_false_iff_ne];exact hy11
       obtain⟨jn,jj⟩:∃jn:Nat,(i:Int)+1+(r1:Int)=(jn:Int):=⟨i+1+r1,by omega⟩
       by_cases hj:jn<n
       ·have ia:(jn:Int)<(n:Int):=by omega
        obtain⟨s,gy,gB⟩:=QTb QYg jn (by have:QYg.length=5:=rfl;omega)
        have hH:=dJ.out.keeps jz (by omega)
        have hc:w5.cell? ⟨w.heap.size,jn,none⟩=some (.string s):=(hH.cell jn).trans (by simp[gy])
        have ke:=hH.lt
        obtain⟨l1,l2,t2,a1,a2,a3,hz,fQ⟩:=QYf s gB t (by omega)
        unfold QSc at a1 a2 a3
        clear hH gy
        go_wp2_with fail
        go_roundg (gk-1)
        case measure=>omega
        case rel=>exact⟨t2,q-1,c+1,rfl,by go_num,by omega,by omega,by omega,fQ c Hx,Mt,jz⟩
       ·have ia:¬(jn:Int)<(n:Int):=by omega
        go_wp2_with fail
        go_roundg (gk-1)
        case measure=>omega
        case rel=>exact⟨t,q-1,c,rfl,by go_num,by omega,by omega,by omega,Hx,Mt,jz⟩
     ·go_wp2_with fail
      refine(Qge B b n _ G5 (by omega) (by omega)).mono ?_
      rintro e w4 ⟨r1,rfl,r10,r11,G6,gD⟩
      obtain⟨r1,rfl⟩:=Int.eq_ofNat_of_zero_le r10
      have GL:Qaa (· = b) wo w4:=(hK.trans gc (fun _ _ e=>e)).trans gD (fun _ _ e=>e)
      go_wp2_with fail
      refine(Qge B b 12 _ G6 (by omega) (by omega)).mono ?_
      rintro e w5 ⟨y,rfl,y00,y01,Mt,Ku⟩
      have jz:Qaa (· = b) wo w5:=GL.trans Ku (fun _ _ e=>e)
      by_cases hy11:y=11
      ·subst hy11
       go_wp2_with fail
       refine(Qge B b n _ Mt (by omega) (by omega)).mono ?_
       rintro e w6 ⟨jn,rfl,j0,j1,a9,jA⟩
       obtain⟨jn,rfl⟩:=Int.eq_ofNat_of_zero_le j0
       have Ml:Qaa (· = b) wo w6:=jz.trans jA (fun _ _ e=>e)
       by_cases hj:jn<n
       ·have ia:(jn:Int)<(n:Int):=by omega
        obtain⟨s,gy,gB⟩:=QTb QYg jn (by have:QYg.length=5:=rfl;omega)
        have hH:=dJ.out.keeps Ml (by omega)
        have hc:w6.cell? ⟨w.heap.size,jn,none⟩=some (.string s):=(hH.cell jn).trans (by simp[gy])
        have ke:=hH.lt
        obtain⟨l1,l2,t2,a1,a2,a3,hz,fQ⟩:=QYf s gB t (by omega)
        unfold QSc at a1 a2 a3
        clear hH gy
        go_wp2_with fail
        go_roundg (gk-1)
        case measure=>omega
        case rel=>exact⟨t2,q-1,c+1,rfl,by go_num,by omega,by omega,by omega,fQ c Hx,a9,Ml⟩
       ·omega
      ·have pR:(y == 11)=false:=by rw[beq_eq_false_iff_ne];exact hy11
       obtain⟨jn,jj⟩:∃jn:Nat,(i:Int)+1+(r1:Int)=(jn:Int):=⟨i+1+r1,by omega⟩
       by_cases hj:jn<n
       ·have ia:(jn:Int)<(n:Int):=by omega
        obtain⟨s,gy,gB⟩:=QTb QYg jn (by have:QYg.length=5:=rfl;omega)
        have hH:=dJ.out.keeps jz (by omega)
        have hc:w5.cell? ⟨w.heap.size,jn,none⟩=some (.string s):=(hH.cell jn).trans (by simp[gy])
        have ke:=hH.lt
        obtain⟨l1,l2,t2,a1,a2,a3,hz,fQ⟩:=QYf s gB t (by omega)
        unfold QSc at a1 a2 a3
        clear hH gy
        go_wp2_with fail
        go_roundg (gk-1)
        case measure=>omega
        case rel=>exact⟨t2,q-1,c+1,rfl,by go_num,by omega,by omega,by omega,fQ c Hx,Mt,jz⟩
       ·have ia:¬(jn:Int)<(n:Int):=by omega
        go_wp2_with fail
        go_roundg (gk-1)
        case measure=>omega
        case rel=>exact⟨t,q-1,c,rfl,by go_num,by omega,by omega,by omega,Hx,Mt,jz⟩
     ·have zz0:(z == 0)=false:=by rw[beq_eq_false_iff_ne];omega
      have zz1:(z == 1)=false:=by rw[beq_eq_false_iff_ne];omega
      go_wp2_with fail
      refine(QOh B b 1 (by omega) _ G5).mono ?_
      rintro e w4 ⟨mm,rfl,ij,csmm,G6,gD⟩
      have jT:QDp 1=16000:=rfl
      have e1:(⟨#[47,32,123,32]⟩:ByteArray).size=4:=rfl
      have GL:Qaa (· = b) wo w4:=(hK.trans gc (fun _ _ e=>e)).trans gD (fun _ _ e=>e)
      obtain⟨l1,a1,q1,dA⟩:=QAa ⟨#[47,32,123,32]⟩ mm (by decide) (by omega)
      obtain⟨l2,a2,q2,jl⟩:=Qxa l1 ⟨#[125,59,10]⟩ 3 rfl (by omega) (by omega)
      obtain⟨t2,a3,q3,lx⟩:=QAa t l2 (by omega) (by omega)
      have cs1:=Cs.app dA (Cs.lit (l:=⟨#[47,32,123,32]⟩) 1 false (by decide)) csmm
      have cs2:=Cs.cat jl cs1 (Cs.lit (l:=⟨#[125,59,10]⟩) 2 false (by decide)) (.inr (by decide))
      have cs3:=Cs.app lx Hx cs2
      clear dA jl lx
      go_wp2_with fail
      go_roundg (gk-1)
      case measure=>omega
      case rel=>exact⟨t2,q-1,_,rfl,by go_num,by omega,by omega,by omega,cs3,G6,GL⟩
    ·obtain rfl:q=0:=by omega
     go_wp2_with fail
     refine(Qge B b 30 _ hT (by omega) (by omega)).mono ?_
     rintro e w3 ⟨z,rfl,z0,z1,G5,gc⟩
     have gD:Qaa (· = b) wo w3:=hK.trans gc (fun _ _ e=>e)
     by_cases hz:z=29
     ·subst hz
      go_wp2_with fail
      refine(Qwm B b _ G5).mono ?_
      rintro e w4 ⟨o,rfl,ho,G6,GL⟩
      have Ku:Qaa (· = b) wo w4:=gD.trans GL (fun _ _ e=>e)
      have tp:=QEm o ho
      obtain⟨t2,a1,q1,dA⟩:=QAa t o (by omega) (by omega)
      have mj:noO t2.data.toList=true:=by rw[dA];exact QGp _ _ Hx.no (Hx.fin rfl) (QJp o ho)
      clear dA
      obtain⟨s,gy,gB⟩:=QTb QYg i (by have:QYg.length=5:=rfl;omega)
      have hH:=dJ.out.keeps Ku (by omega)
      have hc:w4.cell? ⟨w.heap.size,i,none⟩=some (.string s):=(hH.cell i).trans (by simp[gy])
      have ke:=hH.lt
      have pB:=Qba Gu.out Ku (fun g hg e=>by have:=(Gu.out.lt g hg).1;omega)
      have ni:=hid pB
      have ri:=hid (show Q9f (F++[⟨s,t2⟩])from fun j hj=>by
       by_cases hji:j<F.length
       ·rw[List.getElem_append_left hji];exact jt.out j hji
       ·have e9:j=F.length:=by simp at hj;omega
        subst e9
        rw[List.getElem_append_right (Nat.le_refl _)]
        simp only[Nat.sub_self,List.getElem_cons_zero]
        exact⟨by rw[Gz.out];exact gy,by show t2.size≤100000;omega,mj⟩)
      have pO:w.heap.size≤w4.heap.size:=Nat.le_trans HK.out.size Ku.size
      have nL:=hH
      clear hH pB gy
      go_wp2_with (at_builtin;refine QHa _ rfl _ _ 42 42 rfl w.heap.size 46 y0 _ 2 32 Tryz.underlying42 qM kV kI JI rfl _ i (QCa F) rfl (by exact ni.out.alloc _) _ rfl 1 [.string s,.string t2] (by exact Src.ofSlice _ Tryz.underlying42 _ 1 1 _ rfl (Q3a _ _ _ _ (by simp) _ rfl) (fun u hu=>by simp at hu;rcases hu with rfl|rfl <;> rfl)) (by unfold maxLen;omega) (by omega) (by simp;omega) ?_)
      intro v9 w9 mn GN _
      have kK:Qaa (· = b) w w9:=((HK.out.trans Ku (fun _ _ e=>e)).alloc (.cells #[.string s,.string t2] 46)).grown GN (fun g hg=>.inl (Gu.out.lt g hg).1)
      have Je:=hid ((G6.keeps ((Qaa.refl (fun _=>False) w4).alloc (.cells #[.string s,.string t2] 46)) (fun _ e=>e.elim)).keeps (Qaa.of_grown GN (S:=fun g=>Value.ownBlock (.slice ra i rc)=some g) (fun _ e=>e)) (fun g hg=>by have:=(Gu.out.lt g hg).1;have:=nT;omega))
      have eR:=hid (show w9.ownsRow w.heap.size 46 2 v9 (i+1) (QCa (F++[⟨s,t2⟩]))from by rw[Qjd];exact mn)
      have Mr:=hid kK
      have j8:=hid ((nL.alloc (.cells #[.string s,.string t2] 46)).grown GN (fun e=>by have:=Q6a Gu.out dJ.out (by decide);exact this e))
      clear mn GN kK nL
      go_wp2_with fail
      go_roundg (go-1)
      case measure=>omega
      case rel=>exact⟨i+1,F++[⟨s,t2⟩],by go_num,by omega,by omega,by rw[List.length_append,Gz.out];rfl,eR.out,ri.out,j8.out,Je.out,Mr.out⟩
     ·have hz':(z == 29)=false:=by rw[beq_eq_false_iff_ne];exact hz
      have mj:noO t.data.toList=true:=by have:=QGp _ [] Hx.no (Hx.fin rfl) rfl;rwa [List.append_nil]at this
      obtain⟨s,gy,gB⟩:=QTb QYg i (by have:QYg.length=5:=rfl;omega)
      have hH:=dJ.out.keeps gD (by omega)
      have hc:w3.cell? ⟨w.heap.size,i,none⟩=some (.string s):=(hH.cell i).trans (by simp[gy])
      have ke:=hH.lt
      have pB:=Qba Gu.out gD (fun g hg e=>by have:=(Gu.out.lt g hg).1;omega)
      have ni:=hid pB
      have ri:=hid (show Q9f (F++[⟨s,t⟩])from fun j hj=>by
       by_cases hji:j<F.length
       ·rw[List.getElem_append_left hji];exact jt.out j hji
       ·have e9:j=F.length:=by simp at hj;omega
        subst e9
        rw[List.getElem_append_right (Nat.le_refl _)]
        simp only[Nat.sub_self,List.getElem_cons_zero]
        exact⟨by rw[Gz.out];exact gy,by show t.size≤100000;omega,mj⟩)
      have pO:w.heap.size≤w3.heap.size:=Nat.le_trans HK.out.size gD.size
      have nL:=hH
      clear hH pB gy
      go_wp2_with (at_builtin;refine QHa _ rfl _ _ 42 42 rfl w.heap.size 46 y0 _ 2 32 Tryz.underlying42 qM kV kI JI rfl _ i (QCa F) rfl (by exact ni.out.alloc _) _ rfl 1 [.string s,.string t] (by exact Src.ofSlice _ Tryz.underlying42 _ 1 1 _ rfl (Q3a _ _ _ _ (by simp) _ rfl) (fun u hu=>by simp at hu;rcases hu with rfl|rfl <;> rfl)) (by unfold maxLen;omega) (by omega) (by simp;omega) ?_)
      intro v9 w9 mn GN _
      have kK:Qaa (· = b) w w9:=((HK.out.trans gD (fun _ _ e=>e)).alloc (.cells #[.string s,.string t] 46)).grown GN (fun g hg=>.inl (Gu.out.lt g hg).1)
      have Je:=hid ((G5.keeps ((Qaa.refl (fun _=>False) w3).alloc (.cells #[.string s,.string t] 46)) (fun _ e=>e.elim)).keeps (Qaa.of_grown GN (S:=fun g=>Value.ownBlock (.slice ra i rc)=some g) (fun _ e=>e)) (fun g hg=>by have:=(Gu.out.lt g hg).1;have:=nT;omega))
      have eR:=hid (show w9.ownsRow w.heap.size 46 2 v9 (i+1) (QCa (F++[⟨s,t⟩]))from by rw[Qjd];exact mn)
      have Mr:=hid kK
      have j8:=hid ((nL.alloc (.cells #[.string s,.string t] 46)).grown GN (fun e=>by have:=Q6a Gu.out dJ.out (by decide);exact this e))
      clear mn GN kK nL
      go_wp2_with fail
      go_roundg (go-1)
      case measure=>omega
      case rel=>exact⟨i+1,F++[⟨s,t⟩],by go_num,by omega,by omega,by rw[List.length_append,Gz.out];rfl,eR.out,ri.out,j8.out,Je.out,Mr.out⟩
  ·obtain rfl:i=n:=by omega
   go_wp2_with fail
   go_ret
   exact⟨_,F,rfl,by rw[Gz.out];exact Gu.out,jt.out,by rw[Gz.out];omega,by rw[Gz.out];omega,hT,HK.out⟩
theorem QNj(F:List Qoa)(m:ByteArray):(QIc F m).1.length≤6000∧∀x∈(QIc F m).1,OkD x.2:=by
 unfold QIc
 cases h:QSb F m with
 | error x=>exact⟨by simp,by simp⟩
 | ok x=>obtain⟨o,g,out⟩:=x;exact QLk h
section
variable{F:List Qoa}(h:Q9f F)(h1:1≤F.length)(h5:F.length≤5)(t:ByteArray)
include h h5
theorem Qnb:∀f∈F,f.text.size≤maxLen∧f.name.size≤maxLen:=by
 intro f hf
 obtain⟨i,hi,rfl⟩:=List.getElem_of_mem hf
 have:=h i hi
 have hm:F[i].name∈QYg:=List.mem_of_getElem? this.name
 have:=Qpm _ hm
 have:=(h i hi).size
 unfold maxLen
 omega
omit h5 in
include h1
omit h5 in
end
structure Q9g(w:World)(v:Value)(F:List Qoa):Prop where
 here:QZa w v F
 len:F.length≤1000
 sizes:∀f∈F,f.text.size≤maxLen∧f.name.size≤maxLen
theorem Q9g.new{w w':World}{v:Value}{F:List Qoa}(h:Q9g w v F)(k:Below w.heap.size w w'):Q9g w' v F:=⟨h.here.new k,h.len,h.sizes⟩
def Qpk(w:World)(b:Nat):Prop:=∃V:Array Value,Qca w b V 42∧∀i,i<5→∃v F,V[i]? = some v∧Q9g w v F
theorem Qpk.new{w w':World}{b:Nat}(h:Qpk w b)(k:Below w.heap.size w w'):Qpk w' b:=by
 obtain⟨V,h1,h2⟩:=h
 exact⟨V,h1.keeps (Qaa.of_fresh k (fun _=>False)) (fun e=>e),fun i hi=>by obtain⟨v,F,h3,h4⟩:=h2 i hi;exact⟨v,F,h3,h4.new k⟩⟩
theorem QQn{w w':World}{a:Option Addr}{len:Nat}(h:Qqi w a len)(k:Below w.heap.size w w'):Qqi w' a len:=fun h0=>by
 obtain⟨g,o,e,h1⟩:=h h0
 refine⟨g,o,e,fun i hi=>?_⟩
 obtain⟨n,h2,h3⟩:=h1 i hi
 exact⟨n,(k.cell (p:=⟨g,o+i,none⟩) (World.block_lt_of_cell? w _ h2)).trans h2,h3⟩
theorem QQe:∀(F:List Qoa) (k:Nat) (s:ByteArray) (h:k<F.length),(QCa F).set (k*2+1) (.string s)=QCa (F.set k ⟨F[k].name,s⟩)
 | f::F,0,s,_=>rfl
 | f::F,k+1,s,h=>by
  have ih:=QQe F k s (by simpa using h)
  rw[show(k+1)*2+1=(k*2+1)+2 from by omega]
  simp only[QCa,List.flatMap_cons,List.cons_append,List.nil_append,List.set_cons_succ,List.getElem_cons_succ,List.cons.injEq,true_and]at ih ⊢
  exact ih
theorem Qhh{w:World}{g n c:Nat}{F:List Qoa}(h:QZa w (.slice (some ⟨g,0,none⟩) n c) F)(h1:1≤n){v:Value}(hv:v = .slice (some ⟨g,2,none⟩) (n-1) (c-1)∨(n=1∧∃a d,d≤9223372036854775807∧v = .slice a 0 d)):QZa w v (F.drop 1):=by
 obtain⟨a,cap,e,h2,h3,h4⟩:=h
 cases e
 rcases hv with rfl|⟨e1,a',d,hd,rfl⟩
 ·refine⟨_,_,by rw[List.length_drop],by rw[List.length_drop];omega,by omega,fun h0=>?_⟩
  rw[List.length_drop]at h0
  obtain⟨g',o',e,hg,hc⟩:=h4 (by omega)
  cases e
  refine⟨_,_,rfl,hg,fun i hi=>?_⟩
  rw[List.length_drop]at hi
  have:=hc (1+i) (by omega)
  rw[List.getElem_drop]
  rw[show 0+(1+i)*2=2+i*2 from by omega]at this
  exact this
 ·have e0:(F.drop 1).length=0:=by rw[List.length_drop];omega
  exact⟨a',d,by rw[e0],by omega,hd,fun h0=>by omega⟩
theorem Q8f{B base tb n:Nat}{v:Value}{xs:List Value}{w w':World}(h:w.ownsRow base 46 2 v n xs)(hT:Q3c B w tb)(hK:Qaa (· = tb) w w'):w'.ownsRow base 46 2 v n xs:=
 Qba h hK (by
  intro g hg e
  subst e
  obtain⟨_,_,cur,hc⟩:=Qpa h hg
  obtain⟨_,_,_,_,_,hH,_⟩:=hT
  have:=hc.symm.trans hH
  injection this with this;injection this with _ this;exact absurd this (by decide))
noncomputable def QJk(n:Nat):Code:=(Qeg (Tryz.f6.body.getD .skip) n).getD .skip
theorem Qdm(F:List Qoa)(m:ByteArray)(hl:F.length≤1000):(QQd F m).1.length≤1000:=by
 unfold QQd
 cases hR:QSb F m with
 | error x=>simp
 | ok x=>
  obtain⟨ord,giv,out⟩:=x
  unfold QSb at hR
  split at hR
  ·cases hR
  ·split at hR
   ·cases hR
   ·split at hR
    ·cases hR
    ·rename_i k hk
     have hg:=(Qkh F _ _ _ _ _ _ _ _ _ hR (QSe F) (QFb hk) (by simp) rfl (by omega)).1
     have h1:=hg.ord
     have h2:=hg.short
     show ord.length≤1000
     simp only[List.length_nil]at h1 h2
     omega
theorem Q9g.low{w:World}{v:Value}{F:List Qoa}(h:Q9g w v F)(h0:0<F.length):∀g,v.ownBlock=some g→g<w.heap.size:=fun g hg=>by
 obtain⟨a,c,rfl,_,_,h3⟩:=h.here
 obtain⟨g',o,e,h1,_⟩:=h3 h0
 subst e
 cases hg
 exact h1
set_option maxRecDepth 100000 in
theorem QKk{Q:Exit→Act→World→Prop}(w:World)(sb k:Nat)(v:Value)(F:List Qoa)(m:ByteArray)(hx:Q9g w v F)(hk:k<3)(hm:w.cell? ⟨sb,k,none⟩=some (.string m))(lay:QFf w){u0 u1 u2 u3 u4 u5 u6 u7 u8 u9 u10 u11 u12 u13 u14 u16 u17 u18 u19 u20 u21 u22 u23 u24 u25 u26 u27 u28 u29 u30 u31 u32 u33 u34 u35 u36 u37 u38 u39 u40 u41 u42 u43 u44 u45 u46 u47 u48 u49 u50 u51 u52 u53 u54 u55 u56 u57 u58 u59 u60 u61 u62 u63 u64 u65 u66 u67 u68 u69 u70 u71 u72 u73 u74 u75 u76 u77 u78 u79 u80 u81 u82 u83 u84 u85 u86 u87 u88 u90 u92 u93 u94 u95 u96 u97 u98 u99 u100 u101 u102 u103 u104 u105 u106 u107 u108 u109 u110 u111 u112 u113 u114 u115 u116 u117 u118 u119 u120 u121 u122 u123 u124 u125 u126 u127 u128 u129 u130 u131 u132 u133 u134 u135 u136 u137 u138 u139 u140 u141 u142 u143 u144 u145 u146 u147 u148:Value}
 (hQ:Hid (∀(x17 x18 x19 x20 x21 x22 x23 x24 x25 x26 x27 x93 x94 x95 x96 x97 x98 x99 x100 x101 x102 x103 x104 x105 x106 x107 x108 x109 x110 x111 x112 x113 x114 x115 x116 x117 x118 x119 x120 x121 x122 x123 x124 x125 x126 x127 x128 x129 x130 x131 x132 x133 x134 x135 x136 x137 x138 x139 x140 x141 x142 x143 x144 x145:Value) (wx:World),Below w.heap.size w wx→Q .normal ⟨#[u0,u1,u2,u3,u4,u5,u6,u7,u8,u9,u10,u11,u12,u13,u14,v,u16,x17,x18,x19,x20,x21,x22,x23,x24,x25,x26,x27,u28,u29,u30,u31,u32,u33,u34,u35,u36,u37,u38,u39,u40,u41,u42,u43,u44,u45,u46,u47,u48,u49,u50,u51,u52,u53,u54,u55,u56,u57,u58,u59,u60,u61,u62,u63,u64,u65,u66,u67,u68,u69,u70,u71,u72,u73,u74,u75,u76,u77,u78,u79,u80,u81,u82,u83,u84,u85,u86,u87,u88,.slice (some ⟨sb,0,none⟩) 3 3,u90,.int .i64 (k:Int),u92,x93,x94,x95,x96,x97,x98,x99,x100,x101,x102,x103,x104,x105,x106,x107,x108,x109,x110,x111,x112,x113,x114,x115,x116,x117,x118,x119,x120,x121,x122,x123,x124,x125,x126,x127,x128,x129,x130,x131,x132,x133,x134,x135,x136,x137,x138,x139,x140,x141,x142,x143,x144,x145,u146,u147,u148],[]⟩ wx)) :
 (QJk 5).wp Tryz.prog Q ⟨#[u0,u1,u2,u3,u4,u5,u6,u7,u8,u9,u10,u11,u12,u13,u14,v,u16,u17,u18,u19,u20,u21,u22,u23,u24,u25,u26,u27,u28,u29,u30,u31,u32,u33,u34,u35,u36,u37,u38,u39,u40,u41,u42,u43,u44,u45,u46,u47,u48,u49,u50,u51,u52,u53,u54,u55,u56,u57,u58,u59,u60,u61,u62,u63,u64,u65,u66,u67,u68,u69,u70,u71,u72,u73,u74,u75,u76,u77,u78,u79,u80,u81,u82,u83,u84,u85,u86,u87,u88,.slice (some ⟨sb,0,none⟩) 3 3,u90,.int .i64 (k:Int),u92,u93,u94,u95,u96,u97,u98,u99,u100,u101,u102,u103,u104,u105,u106,u107,u108,u109,u110,u111,u112,u113,u114,u115,u116,u117,u118,u119,u120,u121,u122,u123,u124,u125,u126,u127,u128,u129,u130,u131,u132,u133,u134,u135,u136,u137,u138,u139,u140,u141,u142,u143,u144,u145,u146,u147,u148],[]⟩ w:=by
 simp only[QJk,Qeg,Tryz.f6,Option.getD_some,reduceIte,Nat.reduceEqDiff]
 have KR:=World.block_lt_of_cell? w _ hm
 have oQ:(k:Int)<3:=by omega
 obtain⟨va,vc,rfl,_⟩:=id hx.here
 have Hm:=QNj F m
 have kh:=Qdm F m hx.len
 have HX:=hid hx
 have LL:=hid (fun(wx:World) (hb:Below w.heap.size w wx)=>lay.keeps (Qaa.of_fresh hb (fun _=>False)) (fun e=>e))
 have Gt:=hid (QEk _ F m w hx.here hx.low hx.len hx.sizes lay (QLj lay))
 have cI:=hid (fun(wx:World) (hb:Below w.heap.size w wx)=>Q9p _ F m wx (hx.new hb).here hx.len hx.sizes)
 have mL:=hid (fun(wx:World) (hb:Below w.heap.size w wx)=>Qjm _ F m wx (hx.new hb).here (hx.new hb).low hx.len hx.sizes (LL.out wx hb) (QLj (LL.out wx hb)))
 have rB:=hid (fun(wx:World) (hb:Below w.heap.size w wx)=>Qqo _ F m wx (hx.new hb).here hx.len hx.sizes)
 unfold Qae at Gt cI
 unfold Q0d at mL rB
 generalize QIc F m=R at *
 generalize QQd F m=R2 at *
 obtain⟨D,⟨p1,p2,p3⟩,er⟩:=R
 obtain⟨NS,e2⟩:=R2
 unfold QGb at Gt cI
 simp only at Gt cI mL rB Hm kh
 obtain⟨hD1,J7⟩:=Hm
 have jr:=hid J7
 clear hx lay J7
 go_wp2_with fail
 refine(by exact Gt.out:Calls _ _ _ _ _).mono ?_
 rintro e w1 ⟨v1,rfl,kG,Hf⟩
 obtain⟨va1,vc1,rfl⟩:=kG.slice
 have km:=Hf.alloc Hf.size (.cells #[.int .i64 p1,.int .i64 p2,.int .i64 p3] 27)
 have Mj:=hid (Qca.new w1 #[.int .i64 p1,.int .i64 p2,.int .i64 p3] 27)
 have qc:=hid (kG.new ((Below.refl w1.heap.size w1).alloc (Nat.le_refl _) (.cells #[.int .i64 p1,.int .i64 p2,.int .i64 p3] 27)))
 have GI:=hid km
 have ny:=km.size
 clear kG Hf km hm
 go_upto_region 22 with fail
 generalize w1.alloc (.cells #[.int .i64 p1,.int .i64 p2,.int .i64 p3] 27)=w2 at *
 go_wp2_with fail
 refine(by exact cI.out w2 GI.out:Calls _ _ _ _ _).mono ?_
 rintro e w3 ⟨v3,rfl,lB,gm⟩
 obtain⟨va3,vc3,rfl⟩:=lB.slice
 have J6:=gm.alloc gm.size (.cells #[.int .i64 p1,.int .i64 p2,.int .i64 p3] 27)
 have pY:=hid (Qca.new w3 #[.int .i64 p1,.int .i64 p2,.int .i64 p3] 27)
 have ut:=hid (lB.new ((Below.refl w3.heap.size w3).alloc (Nat.le_refl _) (.cells #[.int .i64 p1,.int .i64 p2,.int .i64 p3] 27)))
 have nu:=hid (qc.out.new J6)
 have l9:=hid (Mj.out.keeps (Qaa.of_fresh J6 (fun _=>False)) (fun e=>e))
 have Mg:=hid (GI.out.trans (J6.mono GI.out.size))
 have sq:=J6.size
 clear lB gm J6 qc Mj
 go_upto_region 23 with fail
 generalize w3.alloc (.cells #[.int .i64 p1,.int .i64 p2,.int .i64 p3] 27)=w4 at *
 go_wp2_with fail
 refine(by exact mL.out w4 Mg.out:Calls _ _ _ _ _).mono ?_
 rintro e w5 ⟨v5,rfl,tL,Kx⟩
 obtain⟨va5,vc5,rfl⟩:=Qia tL
 have ue:=hid tL
 have nx:=hid (ut.out.new Kx)
 have nw:=hid (nu.out.new Kx)
 have nb:=hid (l9.out.keeps (Qaa.of_fresh Kx (fun _=>False)) (fun e=>e))
 have ng:=hid (pY.out.keeps (Qaa.of_fresh Kx (fun _=>False)) (fun e=>e))
 have Jw:=hid (Mg.out.trans (Kx.mono Mg.out.size))
 have wZ:=Kx.size
 clear tL Kx ut nu pY l9
 go_wp2_with fail
 refine(by exact rB.out w5 Jw.out:Calls _ _ _ _ _).mono ?_
 rintro e w6 ⟨v6,rfl,tM,mw⟩
 obtain⟨va6,vc6,rfl⟩:=Qia tM
 have lX:=hid tM
 have rG:=hid (Qba ue.out (Qaa.of_fresh mw (fun _=>False)) (fun _ _ e=>e))
 have sc:=hid (nx.out.new mw)
 have sa:=hid (nw.out.new mw)
 have nf:=nb.out.keeps (Qaa.of_fresh mw (fun _=>False)) (fun e=>e)
 have nh:=ng.out.keeps (Qaa.of_fresh mw (fun _=>False)) (fun e=>e)
 have jY:=hid (Jw.out.trans (mw.mono Jw.out.size))
 have xb:=mw.size
 obtain⟨a0,a1,a2,-,-,-,al⟩:=three nf
 obtain⟨c0,c1,c2,-,-,-,cl⟩:=three nh
 have nr:=hid (Q4p _ _ D D w6 sa.out.in sc.out.in (by omega) (fun x hx=>⟨by have:=(jr.out x hx).1;omega,fun p hp=>by have:=(jr.out x hx).2 p hp;omega⟩))
 clear tM mw nx nw nb ng ue nf nh
 go_wp2_with fail
 refine(by exact nr.out:Calls _ _ _ _ _).mono ?_
 rintro e w7 ⟨bb,rfl,ME,jh⟩
 obtain rfl:bb=true:=ME.2 (by first|trivial|rfl)
 have j7:=hid (Qkl _ _ NS _ _ w7 (Qba rG.out (Qaa.of_fresh jh (fun _=>False)) (fun _ _ e=>e)) (Qba lX.out (Qaa.of_fresh jh (fun _=>False)) (fun _ _ e=>e)) kh)
 have cf:=hid (jY.out.trans (jh.mono jY.out.size))
 clear ME jh a0 a1 a2 al c0 c1 c2 cl
 go_wp2_with fail
 refine(by exact j7.out:Calls _ _ _ _ _).mono ?_
 rintro e w8 ⟨rfl,G7⟩
 have GS:=hid (cf.out.trans (G7.mono cf.out.size))
 clear G7
 go_wp2_with fail
 exact hQ.out _ _ _ _ _ _ _ _ _ _ _ _ _ _ _ _ _ _ _ _ _ _ _ _ _ _ _ _ _ _ _ _ _ _ _ _ _ _ _ _ _ _ _ _ _ _ _ _ _ _ _ _ _ _ _ _ _ _ _ _ _ _ _ _ _ GS.out
end Go.Proofs.YtofhcgbihonckaaGreat
