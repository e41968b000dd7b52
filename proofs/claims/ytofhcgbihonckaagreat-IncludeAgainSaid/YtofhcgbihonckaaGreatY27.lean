/- bringupref04: member, body, top. -/
import Derived.Test.YtofhcgbihonckaaGreatY40
import Derived.Test.YtofhcgbihonckaaGreatY35
import Derived.Test.YtofhcgbihonckaaGreatY37
import Derived.Test.YtofhcgbihonckaaGreatY18
import Derived.Test.YtofhcgbihonckaaGreatY31
import Derived.Test.YtofhcgbihonckaaGreatY21
import Derived.Test.YtofhcgbihonckaaGreatY41
import Derived.Test.YtofhcgbihonckaaGreatY33
import Derived.Test.YtofhcgbihonckaaGreatY32
import Derived.BigQuiet
import Derived.Deep.AppendSrc
import Derived.Deep.LoopGhost
import Derived.Deep.DeepCutAuto
import Derived.Deep.CutBlock
import Derived.Deep.CutRange
set_option linter.all false
set_option maxHeartbeats 8000000
namespace Go.Proofs.YtofhcgbihonckaaGreat
open Go.Lib (hid)
open Go.RowKit
theorem QVc(L:List Tok)(kind:Int)(f:List UInt8→Bool)(i:Nat)(hk:(tkN L i).kind=kind):(f (tkN L i).text=true∧Qha L kind f i = .ok (i+1))∨(f (tkN L i).text=false∧Qha L kind f i = .error (i,1)):=by
 cases hf:f (tkN L i).text with
 | true=>exact .inl ⟨rfl,by unfold Qha;rw[if_pos hk,if_pos hf]⟩
 | false=>exact .inr ⟨rfl,by unfold Qha;rw[if_pos hk,if_neg (by rw[hf];exact Bool.false_ne_true)]⟩
theorem QQl(r base:Nat)(file:Int)(L:List Tok)(lv:Value)(n:Nat)(hB:∀m,m≤n→B4C r base file L lv m):M4C r base file L lv (n+1):=by
 intro w ov i D dp h ke hn K9
 by_cases h7:(tkN L i).kind=7
 ·exact Qug n w r base file L lv ov i D h dp (by omega) h7 ke
 ·by_cases h5:(tkN L i).kind=5
  ·rw[Qei h5]
   rcases QVc L 5 Qna i h5 with⟨hl,e⟩|⟨hl,e⟩
   ·rw[e]
    show Calls _ _ _ _ (QVb r base file L lv D (match Qha L 1 QUa (i+1)with
     | .error e=>.error e
     | .ok k=>Qmc L (Q7a L n (.body ⟨1,txN L i,txN L (i+1),[],(tkN L i).line,(tkN L i).col⟩ (dp+1)) k)) w)
    by_cases h1:(tkN L (i+1)).kind=1
    ·have hd:=Qpg n r base file L lv w ov i D h dp K9 h5 (hB n (Nat.le_refl _)) hl h1 ke hn
     rcases QVc L 1 QUa (i+1) h1 with⟨hm,e2⟩|⟨hm,e2⟩
     ·rw[e2]at hd ⊢
      exact hd
     ·rw[e2]at hd ⊢
      exact hd
    ·have hd:=Qqg r base file L lv w ov i D h dp K9 h5 hl h1
     rw[show Qha L 1 QUa (i+1) = .error (i+1,6)from by unfold Qha;rw[if_neg h1]]
     exact hd
   ·rw[e]
    exact Qrg r base file L lv w ov i D h dp K9 h5 hl
  ·by_cases h1:(tkN L i).kind=1
   ·have Hj:=h.lt
    obtain⟨m,rfl⟩:∃m,n=m+1:=⟨n-1,by omega⟩
    cases hb:isK L (i+1) 4 [123]with
    | true=>exact Qsg r base file L lv m (hB m (by omega)) w ov i D h dp K9 h1 hb ke (by omega)
    | false=>
     by_cases h4:(tkN L (i+1)).kind=4
     ·exact Q4f r base file L lv m w ov i D h dp K9 h1 hb ke h4 ((Qoo (by decide) hb).resolve_left (fun h=>h h4))
     ·exact Q3f r base file L lv m w ov i D h dp K9 h1 hb ke h4
   ·have hd:=Qrh w r base file L lv ov i D h dp (by omega) h7 h5 h1
    have e:Q7a L (n+1) (.member dp) i = .error (i,6):=by
     rw[Q7a,if_neg h5,if_neg h1,if_neg (by unfold isK;rw[decide_eq_false h7];exact Bool.false_ne_true),if_neg (by unfold isK;rw[decide_eq_false h7];exact Bool.false_ne_true)]
    rw[e]
    exact hd
theorem QRp(r base:Nat)(file:Int)(L:List Tok)(lv:Value):∀n m,m≤n→B4C r base file L lv m∧M4C r base file L lv m:=by
 intro n
 induction n with
 | zero=>
  intro m hm
  obtain rfl:m=0:=by omega
  refine⟨fun w ov i D d dp h _ hn _=>?_,fun w ov i D dp h _ hn _=>?_⟩
  all_goals
   have:=h.lt
   omega
 | succ n ih=>
  intro m hm
  by_cases e:m=n+1
  ·subst e
   exact⟨QVo r base file L lv n (fun m hm=>(ih m hm).2),QQl r base file L lv n (fun m hm=>(ih m hm).1)⟩
  ·exact ih m (by omega)
theorem Qbi{L:List Tok}{i:Nat}{s:List UInt8}(h:isK L i 7 s=true):(tkN L i).kind=7:=by
 unfold isK at h
 rw[Bool.and_eq_true,decide_eq_true_eq]at h
 exact h.1
theorem QSp(r base:Nat)(file:Int)(L:List Tok)(lv:Value)(w:World)(ov:Value)(i:Nat)(D:List Qra)(h:QZa w r base file L lv ov i D)(ke:D.length≤2*i) :
 Calls Tryz.prog 34 #[.pointer (some ⟨r,0,none⟩)] w (QVb r base file L lv D (Qig L i) w):=by
 have hB:=(QRp r base file L lv (Q8b L) _ (Nat.le_refl _)).1
 have Kx:isK L i 4 [47]=true→(tkN L i).kind=4:=fun e=>(Qcc (by decide) e).1
 unfold Qig
 by_cases h5:(tkN L i).kind=5
 ·rw[if_pos h5]
  rcases QVc L 5 Qna i h5 with⟨hl,e⟩|⟨hl,e⟩
  ·rw[e]
   show Calls _ _ _ _ (QVb r base file L lv D (match Q1a L [47] (i+1)with
    | .error e=>.error e
    | .ok k=>QRi L ⟨1,txN L i,⟨#[47]⟩,[],(tkN L i).line,(tkN L i).col⟩ k) w)
   cases hs:isK L (i+1) 4 [47]with
   | true=>
    rw[show Q1a L [47] (i+1) = .ok (i+1+1)from by unfold Q1a;rw[if_pos hs]]
    exact Qvk r base file L lv w ov i D h hB h5 hl hs ke
   | false=>
    rw[show Q1a L [47] (i+1) = .error (i+1,6)from by unfold Q1a;rw[if_neg (by rw[hs];exact Bool.false_ne_true)]]
    exact Qij r base file L lv w ov i D h h5 hl hs
  ·rw[e]
   exact Qjj r base file L lv w ov i D h h5 hl
 ·rw[if_neg h5]
  cases hs:isK L i 4 [47]with
  | true=>
   have hk:=Kx hs
   have n7:∀s,isK L i 7 s=false:=fun s=>by unfold isK;rw[decide_eq_false (by rw[hk];decide)];rfl
   rw[if_pos rfl]
   exact Qpi r base file L lv w ov i D h hB (n7 _) (n7 _) h5 (by rw[hk];decide) hs ke
  | false=>
   rw[if_neg Bool.false_ne_true]
   by_cases h6:(tkN L i).kind=6
   ·rw[if_pos h6]
    have hd:=Qwk r base file L lv w ov i D h hB h6 ke
    rcases QVc L 6 Qna i h6 with⟨hl,e⟩|⟨hl,e⟩
    ·rw[e]at hd ⊢
     exact hd
    ·rw[e]at hd ⊢
     exact hd
   ·rw[if_neg h6]
    cases h1:isK L i 7 [105,110,99,108,117,100,101]with
    | true=>
     rw[if_pos rfl]
     exact Qhj w r base file L lv ov i D h (Qbi h1) h1 ke
    | false=>
     rw[if_neg Bool.false_ne_true]
     cases h2:isK L i 7 [100,101,108,101,116,101,45,110,111,100,101]with
     | true=>
      rw[if_pos rfl]
      exact Qgj w r base file L lv ov i D h (Qbi h2) h1 h2 ke
     | false=>
      rw[if_neg Bool.false_ne_true]
      exact Qkj r base file L lv w ov i D h h1 h2 h5 h6 hs
theorem Qbp{L:List Tok}{i j:Nat}{ds:List Qra}(h:Qig L i = .ok (j,ds)):i<j:=by
 have kv:∀{d:Qra} {k:Nat},i≤k→QRi L d k = .ok (j,ds)→i<j:=by
  intro d k hk h
  unfold QRi at h
  cases h1:Q7a L (Q8b L) (.body d 0) k with
  | error e=>rw[h1]at h;cases h
  | ok q=>
   rw[h1]at h
   obtain⟨m,xs⟩:=q
   obtain⟨_,_,a,_⟩:=(Qeg L (Q8b L)).1 _ _ _ _ _ h1
   simp only at h
   unfold Q1a at h
   split at h
   ·cases h
   ·rename_i h2
    split at h2
    ·cases h2;cases h;omega
    ·cases h2
 have i5:∀{kind what:Int} {b:List UInt8} {f:List UInt8→Bool},Qhd L kind what b f i = .ok (j,ds)→i<j:=by
  intro kind what b f h
  unfold Qhd at h
  cases h1:Qha L what f (i+1)with
  | error e=>rw[h1]at h;cases h
  | ok m=>
   rw[h1]at h
   have:=Q2b h1
   simp only at h
   unfold Q1a at h
   split at h
   ·cases h
   ·rename_i h2
    split at h2
    ·cases h2;cases h;omega
    ·cases h2
 unfold Qig at h
 split at h
 ·cases h1:Qha L 5 Qna i with
  | error e=>rw[h1]at h;cases h
  | ok a=>
   rw[h1]at h
   have ha:=Q2b h1
   simp only at h
   cases h2:Q1a L [47] a with
   | error e=>rw[h2]at h;cases h
   | ok b=>
    rw[h2]at h
    unfold Q1a at h2
    split at h2
    ·cases h2;exact kv (by omega) h
    ·cases h2
 ·split at h
  ·exact kv (by omega) h
  ·split at h
   ·cases h1:Qha L 6 Qna i with
    | error e=>rw[h1]at h;cases h
    | ok a=>
     rw[h1]at h
     have ha:=Q2b h1
     exact kv (by omega) h
   ·split at h
    ·exact i5 h
    ·split at h
     ·exact i5 h
     ·cases h
set_option maxRecDepth 100000 in
theorem QUo(s:ByteArray)(file:Int)(w:World)(hs:s.size≤maxLen) :
 Calls Tryz.prog 14 #[.string s,.int .i64 file] w (QOe s file w):=by
 have gJ:Below w.heap.size w (w.alloc (.cells #[.int .i64 0,.int .i64 0,.int .i64 0] 27)):=(Below.refl _ _).alloc (Nat.le_refl _) _
 have kR:=Qca.new w #[.int .i64 0,.int .i64 0,.int .i64 0] 27
 have gz:=Qsn s file (w.alloc (.cells #[.int .i64 0,.int .i64 0,.int .i64 0] 27)) hs
 have Kd:=QTd s.data.toList file
 unfold QKd QJb at gz
 unfold QOe
 have hT:∃T,QTb s.data.toList file=T:=⟨_,rfl⟩
 obtain⟨T,hT⟩:=hT
 rw[hT]
 unfold QTb at hT
 generalize Qub s.data.toList file=RT at *
 obtain⟨L,⟨p1,p2,p3⟩,er⟩:=RT
 simp only at gz Kd hT
 unfold QJb
 have Ge:(w.alloc (.cells #[.int .i64 0,.int .i64 0,.int .i64 0] 27)).heap.size=w.heap.size+1:=by simp
 go_enter Tryz.func14,Tryz.ntmps14
 go_wp2_with fail
 generalize w.alloc (.cells #[.int .i64 0,.int .i64 0,.int .i64 0] 27)=w0 at *
 refine(by exact gz:Calls _ _ _ _ _).mono ?_
 rintro e w1 ⟨lv,rfl,Hb,He⟩
 have kb1:Qaa (fun _=>False) w0 w1:=Qaa.of_fresh He _
 have gZ:Qaa (fun _=>False) w w1:=(Qaa.of_fresh gJ (fun _=>False)).trans kb1 (fun _ _ e=>e)
 have Gb:=kR.keeps kb1 (fun e=>e)
 have gc:=Gb.alloc (.cells #[.int .i64 p1,.int .i64 p2,.int .i64 p3] 27)
 have GU:=Qca.new w1 #[.int .i64 p1,.int .i64 p2,.int .i64 p3] 27
 have ga:=gZ.alloc (.cells #[.int .i64 p1,.int .i64 p2,.int .i64 p3] 27)
 have gj:=World.ownsRow.alloc Hb (.cells #[.int .i64 p1,.int .i64 p2,.int .i64 p3] 27)
 have eS:=Gb.lt
 clear gz gJ kR He kb1 gZ Hb
 by_cases he:er=0
 ·subst he
  rw[if_neg (by simp)]at hT
  obtain⟨ts,t,dP,h8⟩:=Kd.2.2 rfl
  have mg:LOk L:=⟨Kd.2.1,Kd.1,ts,t,dP,h8⟩
  have Hq:L≠[]:=by rw[dP];simp
  have aC:0<L.length:=List.length_pos_iff.2 Hq
  have eM:=QAi (B:=(w1.alloc (.cells #[.int .i64 p1,.int .i64 p2,.int .i64 p3] 27)).heap.size) gj Hq (Nat.le_refl _)
  obtain⟨gL,cL,rfl,_⟩:=id eM
  have gU:(w1.alloc (.cells #[.int .i64 p1,.int .i64 p2,.int .i64 p3] 27)).heap.size=w1.heap.size+1:=by simp
  have gD:QZa ((w1.alloc (.cells #[.int .i64 p1,.int .i64 p2,.int .i64 p3] 27)).alloc (.cells #[.slice (some ⟨gL,0,none⟩) L.length cL,.int .i64 0,.slice none 0 0,.int .i64 0,.int .i64 0,.int .i64 0,.int .i64 0] 78)) (w1.heap.size+1) (w1.alloc (.cells #[.int .i64 p1,.int .i64 p2,.int .i64 p3] 27)).heap.size file L (.slice (some ⟨gL,0,none⟩) L.length cL) (.slice none 0 0) 0 []:=
   ⟨Qca.newAt (by simp) _ _,eM.keeps ((Qaa.refl (fun _=>False) _).alloc _) (fun _ e=>e.elim),Q0a.none _ _ _,by simp,by simp,aC,mg,Nat.zero_le _⟩
  have gT:=gc.alloc (.cells #[.slice (some ⟨gL,0,none⟩) L.length cL,.int .i64 0,.slice none 0 0,.int .i64 0,.int .i64 0,.int .i64 0,.int .i64 0] 78)
  have gd:=ga.alloc (.cells #[.slice (some ⟨gL,0,none⟩) L.length cL,.int .i64 0,.slice none 0 0,.int .i64 0,.int .i64 0,.int .i64 0,.int .i64 0] 78)
  have KR:w.heap.size<w1.heap.size:=eS
  have mx:L.length<0+Q6a L:=by unfold Q6a;omega
  generalize hN:Q6a L=N at *
  generalize hTR:QJd L N 0 []=TR at *
  have oT:=hid hTR
  have Ga:=Kd.2.1
  rw[gU]at gD
  clear GU gj eM gc ga hN hTR Kd mg dP gU
  go_wp2_with fail
  generalize (w1.alloc (.cells #[.int .i64 p1,.int .i64 p2,.int .i64 p3] 27)).alloc (.cells #[.slice (some ⟨gL,0,none⟩) L.length cL,.int .i64 0,.slice none 0 0,.int .i64 0,.int .i64 0,.int .i64 0,.int .i64 0] 78)=w3 at *
  go_loopg [] N (fun f wr=>Hid (Qaa (fun b=>w1.heap.size+1≤b) w3 wr)∧((∃(j:Nat) (acc:List Qra) (ov:Value),Hid (QJd L f j acc=TR)∧Hid (L.length<j+f∧acc.length≤2*j)∧Hid (QZa wr (w1.heap.size+1) (w1.heap.size+1) file L (.slice (some ⟨gL,0,none⟩) L.length cL) ov j acc))∨(∃k c,Hid (TR = .error (k,c))∧Hid (Qyb wr (w1.heap.size+1) file L k c))))
  case atStart=>exact⟨hid (Qaa.refl _ _),.inl ⟨0,[],.slice none 0 0,oT,hid ⟨mx,Nat.zero_le _⟩,hid gD⟩⟩
  case round=>
   obtain⟨HK,⟨j,acc,ov,HR,HN,HA⟩|⟨k,c,HE,KE⟩⟩:=hrel
   ·obtain⟨f,hf⟩:∃f,gk=f+1:=⟨gk-1,by have:=HN.out;have:=HA.out.lt;omega⟩
    have hS:=HR.out
    rw[hf,QJd]at hS
    have hA:=HA.out
    obtain⟨c0,c1,c2,c3,c4,c5,c6,_,_,_,_,_,_,cl⟩:=hA.cells
    obtain⟨n1,n2⟩:=hA.num
    obtain⟨g',cap',eg,hg',d0,_⟩:=hA.toks.at hA.lt
    cases eg
    have gl:=World.block_lt_of_cell? wr _ d0
    have HF:=hid hf
    by_cases h8:(tkN L j).kind=8
    ·rw[if_pos h8]at hS
     rw[h8]at d0
     subst hS
     simp only at hT
     subst hT
     have Ky:=gT.keeps HK.out (by omega)
     have kt:Qaa (fun _=>False) w wr:=gd.trans (HK.out.mono (S:=fun b=>w.heap.size<b) (fun b _ e=>by omega)) (fun b hb e=>by omega)
     obtain⟨n0,n1',n2',nf0,nf1,nf2,nl⟩:=three Ky
     have hd:=hA.defs
     obtain⟨oa,oc,rfl⟩:=hd.slice
     have HD:=hid hd
     have ja:=hid Ky
     have GS:=hid kt
     clear hd Ky kt hA h8 hf
     go_wp2_with fail
     have z1:=QPa ja.out (.int .i64 0) (.int .i64 0) (.int .i64 0)
     have z2:=Qua (S:=fun _=>False) GS.out (B:=w.heap.size) (.inl (Nat.le_refl _)) (.int .i64 0) (.int .i64 0) (.int .i64 0)
     have z3:=(HD.out.keeps (Qua (S:=(· = w.heap.size)) (Qaa.refl _ wr) (.inr rfl) (.int .i64 0) (.int .i64 0) (.int .i64 0)) (QNa.one ja.out (by decide) (by decide) (by decide))).lower (show w.heap.size≤w1.heap.size+1 by omega)
     unfold Q5e at z1 z2 z3
     obtain⟨q0,q1,q2,_⟩:=three z1
     exact bodyPost_ret (v:=.tuple #[.slice oa acc.length oc,.agg #[.int .i64 0,.int .i64 0,.int .i64 0],.int .i64 0]) (by simp[results,Tryz.results14,go_sem,q0,q1,q2]) rfl ⟨_,rfl,z3,z2.below (Nat.le_refl _) (fun _ _ e=>e)⟩
    ·rw[if_neg h8]at hS
     have tI:((tkN L j).kind != 8)=true:=by simpa using h8
     have nb:=hid (QSp (w1.heap.size+1) (w1.heap.size+1) file L (.slice (some ⟨gL,0,none⟩) L.length cL) wr ov j acc hA HN.out.2)
     have nk:=hid (fun m ds h=>@Qbp L j m ds h)
     have HS:=hid hS
     generalize Qig L j=PR at *
     generalize (tkN L j).kind=kd at *
     clear h8 hA hS hf
     go_wp2_with fail
     refine(by exact nb.out:Calls _ _ _ _ _).mono ?_
     rintro e w5 ⟨rfl,mt,hm⟩
     have GS:=hid (HK.out.trans (Qaa.of_below mt) (S:=(fun b=>w1.heap.size+1≤b)) (fun _ _ e=>e))
     clear mt
     cases PR with
     | ok q=>
      obtain⟨k,ds⟩:=q
      obtain⟨ov6,KX,iX⟩:=hm
      have ls:=nk.out k ds rfl
      have KB:=hid KX
      have od:=hid iX
      have KU:=hid HS.out
      clear KX iX
      go_wp2_with fail
      go_roundg f
      case measure=>have:=HF.out;omega
      case rel=>exact⟨GS,.inl ⟨k,acc++ds,ov6,KU,hid (by have:=HN.out;have:=HF.out;have h3:=od.out;rw[List.length_append];omega),KB⟩⟩
     | error q=>
      obtain⟨k,c⟩:=q
      have KE:=hid hm
      have KU:=hid HS.out
      clear hm
      go_wp2_with fail
      go_roundg f
      case measure=>have:=HF.out;omega
      case rel=>exact⟨GS,.inr ⟨k,c,hid KU.out.symm,KE⟩⟩
   ·have hE:=HE.out
    subst hE
    simp only at hT
    subst hT
    obtain⟨kX,lv',x',ov',hH⟩:=id KE.out
    have c3:=hH.cell 3
    have c4:=hH.cell 4
    have c5:=hH.cell 5
    have c6:=hH.cell 6
    have crl:=hH.lt
    have fz:(c == 0)=false:=by rw[beq_eq_false_iff_ne];exact kX
    have hcb2:(c != 0)=true:=by rw[bne_iff_ne];exact kX
    have Kz:=gT.keeps HK.out (by omega)
    have mO:Qaa (fun _=>False) w wr:=gd.trans (HK.out.mono (S:=fun b=>w.heap.size<b) (fun b _ e=>by omega)) (fun b hb e=>by omega)
    obtain⟨n0,n1,n2,nf0,nf1,nf2,nl⟩:=three Kz
    obtain⟨ln,kV⟩:∃z,z=(tkN L k).line:=⟨_,rfl⟩
    obtain⟨cl,kh⟩:∃z,z=(tkN L k).col:=⟨_,rfl⟩
    rw[←kV]at c5
    rw[←kh]at c6
    have oC:=hid kV
    have be:=hid kh
    have K5:=hid Kz
    have gC:=hid mO
    clear kV kh Kz mO hH kX
    go_wp2_with fail
    go_region
    all_goals
     go_wp2_with fail
     have z1:=(QPa K5.out (.int .i64 file) (.int .i64 ln) (.int .i64 cl)).drew
     have z2:=(Qua (S:=fun _=>False) gC.out (B:=w.heap.size) (.inl (Nat.le_refl _)) (.int .i64 file) (.int .i64 ln) (.int .i64 cl)).drew
     unfold Q5e at z1 z2
     obtain⟨q0,q1,q2,_⟩:=three z1
     exact bodyPost_ret (v:=.tuple #[.slice none 0 0,.agg #[.int .i64 file,.int .i64 ln,.int .i64 cl],.int .i64 c]) (by simp[results,Tryz.results14,go_sem,q0,q1,q2]) rfl ⟨_,(by rw[oC.out,be.out]),Q0a.none _ _ _,z2.below (Nat.le_refl _) (fun _ _ e=>e)⟩
 ·rw[if_pos he]at hT
  subst hT
  have pL:(er != 0)=true:=by simpa using he
  obtain⟨n0,n1,n2,nf0,nf1,nf2,nl⟩:=three gc
  obtain⟨m0,m1,m2,mf0,mf1,mf2,ml⟩:=three GU
  obtain⟨va,vc,rfl⟩:=Qma gj
  have KV:=hid gc
  have Gs:=hid ga
  clear he Kd gc ga GU gj
  go_wp2_with fail
  generalize w1.alloc (.cells #[.int .i64 p1,.int .i64 p2,.int .i64 p3] 27)=w2 at *
  go_region
  all_goals
   go_wp2_with fail
   have z1:=(QPa KV.out (.int .i64 p1) (.int .i64 p2) (.int .i64 p3)).drew
   have z2:=(Qua (S:=fun _=>False) Gs.out (B:=w.heap.size) (.inl (Nat.le_refl _)) (.int .i64 p1) (.int .i64 p2) (.int .i64 p3)).drew
   unfold Q5e at z1 z2
   obtain⟨q0,q1,q2,_⟩:=three z1
   exact bodyPost_ret (v:=.tuple #[.slice none 0 0,.agg #[.int .i64 p1,.int .i64 p2,.int .i64 p3],.int .i64 er]) (by simp[results,Tryz.results14,go_sem,q0,q1,q2]) rfl ⟨_,rfl,Q0a.none _ _ _,z2.below (Nat.le_refl _) (fun _ _ e=>e)⟩
theorem Qvl(k:Nat):(Qgh k).length=15*k:=by
 induction k with
 | zero=>rfl
 | succ k ih=>rw[Qgh,List.length_append,ih];simp[Qoq];omega
theorem Qsm{w:World}{b:Nat}{s t:ByteArray}(h:Qca w b #[.string nmX,.string s,.string nmM,.string t] 46):QKb w (.slice (some ⟨b,0,none⟩) 2 2) [⟨nmX,s⟩,⟨nmM,t⟩]:=by
 refine⟨_,2,rfl,Nat.le_refl _,by omega,fun _=>⟨b,0,rfl,h.lt,fun i hi=>?_⟩⟩
 have kU:i<2:=hi
 have hc:i=0∨i=1:=by omega
 rcases hc with rfl|rfl
 ·exact⟨h.cell 0,h.cell 1⟩
 ·exact⟨h.cell 2,h.cell 3⟩
theorem Qxc.part{w:World}{a:Option Addr}{cap:Nat}{l m:List FdT}{lo:Nat}(h:Qxc w (.slice a l.length cap) l)(hm:∀i (hi:i<m.length) (hj:lo+i<l.length),m[i]=l[lo+i])(hl:lo+m.length≤l.length)(hcap:0<l.length→l.length≤cap):Qxc w (sliced a lo (lo+m.length) cap 7) m:=by
 obtain⟨a',cap',e,h2⟩:=h
 cases e
 refine⟨_,_,by unfold sliced;rw[show lo+m.length-lo=m.length from by omega],fun h0=>?_⟩
 obtain⟨g,o,rfl,hg,hc⟩:=h2 (by omega)
 have pJ:=hcap (by omega)
 refine⟨g,o+lo*7,?_,hg,fun i hi=>?_⟩
 ·rw[if_neg (by omega)];simp[Addr.add]
 ·have:=hc (lo+i) (by omega)
  rw[hm i hi (by omega),show o+lo*7+i*7=o+(lo+i)*7 from by omega]
  exact this
theorem QVp(k:Nat)(T:List FdT)(i j:Nat)(hi:i<k)(hj:j<T.length)(Hj:i*T.length+j<(Qhg k T).length):(Qhg k T)[i*T.length+j]=T[j]:=by
 induction k generalizing i with
 | zero=>omega
 | succ k ih=>
  have e:Qhg (k+1) T=T++Qhg k T:=by simp[Qhg,List.replicate_succ]
  simp only[e]
  cases i with
  | zero=>rw[List.getElem_append_left (by omega)];simp
  | succ i=>
   have Jh:(i+1)*T.length=i*T.length+T.length:=Nat.succ_mul _ _
   rw[List.getElem_append_right (by omega)]
   have h2:i*T.length+j<(Qhg k T).length:=by rw[e,List.length_append]at Hj;omega
   have:=ih i (by omega) h2
   simp only[show(i+1)*T.length+j-T.length=i*T.length+j from by omega]
   exact this
theorem Qsa.cap{w:World}{base:Nat}{a:Option Addr}{n c:Nat}{l:List FdT}(h:Qsa w base (.slice a n c) l)(h0:0<l.length):l.length≤c:=by
 obtain⟨vs,_,hr,_⟩:=h
 rcases hr.2 with⟨_,h1⟩|⟨g,cap,cur,e,hb,hh,hcap,_⟩
 ·omega
 ·cases e;exact hcap
theorem Qxn{w:World}{base:Nat}{a:Option Addr}{n c:Nat}{k i:Nat}{T:List FdT}(h:Qsa w base (.slice a n c) (Qhg k T))(hi:i<k):Qxc w (sliced a (i*T.length) (i*T.length+T.length) c 7) T:=by
 have hl:=QAf k T
 have bJ:i*T.length+T.length≤k*T.length:=by rw[←Nat.succ_mul];exact Nat.mul_le_mul_right _ hi
 obtain⟨a',c',e⟩:=h.slice
 cases e
 exact Qxc.part h.in (fun j hj Hj=>(QVp k T i j hi hj Hj).symm) (by omega) h.cap
set_option maxRecDepth 100000 in
theorem QWe(a0:Option Addr)(len0 cap0:Nat)(n:Int)(w:World)(hi:QVk w a0 len0)(nL:len0≤cap0)(hcap:cap0≤maxLen)(az:a0=none→len0=0∧cap0=0)(MN:0≤n)(eB:n≤255)(h0:Qhf w) :
 Calls Tryz.prog 7 #[.slice a0 len0 cap0,.int .u8 n] w fun e w'=>e = .returned (.bool true)∧Below w.heap.size w w':=by
 have LL:=hid (fun(wx:World) (hb:Below w.heap.size w wx)=>h0.keeps (Qaa.of_fresh hb (fun _=>False)) (fun e=>e))
 have rx:=hid (fun(wx:World) (hb:Below w.heap.size w wx)=>(Q1i wx (LL.out _ hb)).mono (R':=fun e w'=>e = .returned (.bool true)∧Below w.heap.size w w') (fun e w' h=>⟨h.1,hb.trans (h.2.mono hb.size)⟩))
 obtain⟨k0,hk⟩:∃k0:Nat,n % 5=k0:=⟨(n % 5).toNat,by omega⟩
 have Hs:k0<5:=by omega
 clear h0
 go_enter Tryz.func7,Tryz.ntmps7
 have Ht:(1:Int)+(k0:Int)=(k0:Int)+1:=by omega
 have cy:1≤k0+1:=by omega
 have Hw:k0+1≤5:=by omega
 go_wp2_with fail
 refine(QJp a0 len0 cap0 w hi nL hcap az).mono ?_
 rintro e w1 ⟨tb,rfl,Kl,He⟩
 have qw:=Kl.1
 clear hi nL hcap az
 go_wp2_with fail
 refine(Q8g w.heap.size tb 1 (by omega) w1 Kl).mono ?_
 rintro e w2 ⟨m,rfl,hm,ci,gX,ga⟩
 have hm':m.size≤16000:=hm
 obtain⟨s1,Hv,gW,kJ⟩:=QCa ⟨#[47,32,123,32]⟩ m (by decide) (by omega)
 have e1:(⟨#[47,32,123,32]⟩:ByteArray).size=4:=rfl
 obtain⟨body,K7,gE,hx2⟩:=Qta s1 ⟨#[125,59,10]⟩ 3 rfl (by omega) (by omega)
 have fA:=Ci.cat hx2 (Ci.app kJ (Ci.lit (l:=⟨#[47,32,123,32]⟩) 1 false (by decide)) ci) (Ci.lit (l:=⟨#[125,59,10]⟩) 2 false (by decide)) (.inl rfl)
 have hJ:=hid (show noJ body.data.toList=true by have:=fA.noi;rw[Bool.and_eq_true]at this;exact this.2)
 have hC:=hid (show QBg body.data.toList≤1000 by have:=fA.cs.cnt;have h9:Q0p 1=28:=rfl;omega)
 have kc:body.size≤20000:=by omega
 have Hn:Below w.heap.size w w2:=He.trans (ga.below He.size (by intro i hi e;omega))
 have GI:=hid Hn
 have mS:=Hn.size
 clear Kl He gX ga Hn kJ hx2 fA ci e1
 go_upto_region 6 with fail
 clear Hv K7
 go_loopg [8,9] (k0+1) (fun f x y wr=>∃(i:Nat) (s:ByteArray),x = .string s∧y = .int .i64 i∧i≤k0+1∧k0+1≤i+f∧Hid (s.data.toList=Qgh i)∧w2=wr)
 case atStart=>exact⟨0,⟨#[]⟩,rfl,rfl,by omega,by omega,hid rfl,rfl⟩
 case round=>
  obtain⟨i,s,rfl,rfl,pT,hf,hs,rfl⟩:=hrel
  have Ge:s.size=15*i:=by have:=congrArg List.length hs.out;rw[Qvl]at this;simpa using this
  by_cases Hj:i<k0+1
  ·have pX:(i:Int)<(k0:Int)+1:=by omega
   obtain⟨s',dX,sD,sG⟩:=Qta s ⟨#[47,105,110,99,108,117,100,101,47,32,34,120,34,59,10]⟩ 15 rfl (by omega) (by omega)
   have tq:=hid (show s'.data.toList=Qgh (i+1)by rw[sG,hs.out];rfl)
   clear sG
   go_wp2_with fail
   go_roundg (gk-1)
   case measure=>omega
   case rel=>exact⟨i+1,s',rfl,by go_num,by omega,by omega,tq,rfl⟩
  ·obtain rfl:i=k0+1:=by omega
   have pX:¬(k0:Int)+1<(k0:Int)+1:=by omega
   have sc:QKb (w2.alloc (.cells #[.string ⟨#[120]⟩,.string body,.string ⟨#[109,97,105,110]⟩,.string s] 46)) (.slice (some ⟨w2.heap.size,0,none⟩) 2 2) [⟨nmX,body⟩,⟨nmM,s⟩]:=Qsm (Qca.new w2 #[.string nmX,.string body,.string nmM,.string s] 46)
   have gv:=GI.out.alloc GI.out.size (.cells #[.string ⟨#[120]⟩,.string body,.string ⟨#[109,97,105,110]⟩,.string s] 46)
   have M7:=hid gv
   have gB:0<[(⟨nmX,body⟩:QFa),⟨nmM,s⟩].length→∀g,(Value.slice (some ⟨w2.heap.size,0,none⟩) 2 2).ownBlock=some g→g<(w2.alloc (.cells #[.string ⟨#[120]⟩,.string body,.string ⟨#[109,97,105,110]⟩,.string s] 46)).heap.size:=by
    intro _ g hg
    cases hg
    simp
   have qL:=hid sc
   have Hx:=hid gB
   have hw23:=gv.size
   clear sc gB gv
   go_upto_region 10 with fail
   generalize w2.alloc (.cells #[.string ⟨#[120]⟩,.string body,.string ⟨#[109,97,105,110]⟩,.string s] 46)=w3 at *
   obtain⟨rG,rD⟩:=QMi body s (k0+1) cy Hw hs.out hJ.out hC.out
   have pu:=Nat.le_trans (Qkm body.data.toList 0) hC.out
   have pz:=Qlm body.data.toList 0
   have pD:∀f∈[(⟨nmX,body⟩:QFa),⟨nmM,s⟩],f.text.size≤maxLen∧f.name.size≤maxLen:=by
    intro f hf
    simp only[List.mem_cons,List.not_mem_nil,or_false]at hf
    unfold maxLen
    rcases hf with rfl|rfl
    ·exact⟨by show body.size≤_;omega,by show nmX.size≤_;decide⟩
    ·exact⟨by show s.size≤_;omega,by show nmM.size≤_;decide⟩
   have fW:=hid (QUo body 0 w3 (by unfold maxLen;omega))
   have Gi:=hid (fun(wx:World) (hb:Below w3.heap.size w3 wx)=>QLj _ _ nmM wx (qL.out.new hb) (fun h0 g hg=>by have:=Hx.out h0 g hg;have:=hb.size;omega) (by simp) pD (LL.out wx (M7.out.trans (hb.mono M7.out.size))) (Q4i (LL.out wx (M7.out.trans (hb.mono M7.out.size)))))
   have cd:=hid (fun(wx:World) (hb:Below w3.heap.size w3 wx)=>Qjl _ _ nmM wx (qL.out.new hb) (fun h0 g hg=>by have:=Hx.out h0 g hg;have:=hb.size;omega) (by simp) pD (LL.out wx (M7.out.trans (hb.mono M7.out.size))) (Q4i (LL.out wx (M7.out.trans (hb.mono M7.out.size)))))
   unfold QOe at fW
   unfold Qof at Gi
   unfold QCf at cd
   rw[rG]at Gi
   rw[rD]at cd
   clear rG rD pD
   generalize QTb body.data.toList 0=R at *
   obtain⟨D,⟨p1,p2,p3⟩,er⟩:=R
   simp only at fW Gi cd pu pz
   have tX:(Qoc 0 D).length≤1000:=by simpa[Qoc]using pu
   have Kh:=hid (show ∀x∈Qoc 0 D,OkD x.2 from fun x hx=>by obtain⟨d,hd,rfl⟩:=List.mem_map.1 hx;exact pz d hd)
   clear pu pz
   unfold QJb at fW Gi
   have br:=hid (show Calls Tryz.prog 14 #[.string body,.int .i64 0] w3 (fun e w'=>∃v,e = .returned (.tuple #[v,.agg #[.int .i64 p1,.int .i64 p2,.int .i64 p3],.int .i64 er])∧Qsa w' w3.heap.size v (Qoc 0 D)∧Below w3.heap.size w3 w')from fW.out.mono (fun e w' ⟨v,h1,h2,h3⟩=>⟨v,h1,h2.fds,h3⟩))
   clear fW
   generalize Qoc 0 D=T at *
   unfold nmM at Gi cd
   by_cases he:er=0
   ·subst he
    simp only[ne_eq,not_true_eq_false,if_false]at Gi cd
    go_wp2_with fail
    refine(by exact br.out:Calls _ _ _ _ _).mono ?_
    rintro e w4 ⟨v1,rfl,GZ,Kb⟩
    obtain⟨va1,vc1,rfl⟩:=GZ.slice
    have dJ:=Kb.alloc Kb.size (.cells #[.int .i64 p1,.int .i64 p2,.int .i64 p3] 27)
    have nt:=hid (GZ.new ((Below.refl w4.heap.size w4).alloc (Nat.le_refl _) (.cells #[.int .i64 p1,.int .i64 p2,.int .i64 p3] 27)))
    have jl:=hid dJ
    have tC:=dJ.size
    clear GZ Kb dJ
    go_upto_region 11 with fail
    generalize w4.alloc (.cells #[.int .i64 p1,.int .i64 p2,.int .i64 p3] 27)=w5 at *
    go_wp2_with fail
    refine(by exact Gi.out w5 jl.out:Calls _ _ _ _ _).mono ?_
    rintro e w6 ⟨v2,rfl,aJ,K8⟩
    obtain⟨va2,vc2,rfl⟩:=aJ.slice
    have cf:=K8.alloc K8.size (.cells #[.int .i64 0,.int .i64 0,.int .i64 0] 27)
    have nu:=hid (aJ.new ((Below.refl w6.heap.size w6).alloc (Nat.le_refl _) (.cells #[.int .i64 0,.int .i64 0,.int .i64 0] 27)))
    have iq:=hid (nt.out.new cf)
    have jX:=hid (jl.out.trans (cf.mono jl.out.size))
    have tD:=cf.size
    clear aJ K8 cf nt
    go_upto_region 12 with fail
    generalize w6.alloc (.cells #[.int .i64 0,.int .i64 0,.int .i64 0] 27)=w7 at *
    go_wp2_with fail
    refine(by exact cd.out w7 jX.out:Calls _ _ _ _ _).mono ?_
    rintro e w8 ⟨v3,rfl,bX,GO⟩
    obtain⟨va3,vc3,rfl⟩:=Qma bX
    have HN:=hid bX
    have ir:=hid (iq.out.new GO)
    have iv:=hid (nu.out.new GO)
    have GW:=hid (jX.out.trans (GO.mono jX.out.size))
    have h78:=GO.size
    clear bX GO iq nu
    have nt:=hid ir.out.in
    have HT:∀x∈T,x.2.parts.length≤9223372036854775807∧∀p∈x.2.parts,p.cells.length≤9223372036854775807:=fun x hx=>⟨by have:=(Kh.out x hx).1;omega,fun p hp=>by have:=(Kh.out x hx).2 p hp;omega⟩
    have HT':=hid HT
    have tR:=hid (fun(wx:World) (hb:Below w8.heap.size w8 wx) (g2:Nat) (h2:Qca wx g2 #[.string ⟨#[109,97,105,110]⟩,.string ⟨#[120]⟩] 9)=>Q2i _ g2 2 [⟨#[109,97,105,110]⟩,⟨#[120]⟩] _ wx (Qba HN.out (Qaa.of_fresh hb (fun _=>False)) (fun _ _ e=>e)) h2 (by simp))
    clear HT
    go_upto_region 17 with fail
    have hmul:((k0:Int)+1)*(T.length:Int)=((Qhg (k0+1) T).length:Int):=by rw[QAf];simp
    have mZ:(Qhg (k0+1) T).length≤5000:=by rw[QAf];exact Nat.le_trans (Nat.mul_le_mul (show k0+1≤5 by omega) tX) (by omega)
    have Gv:=(Below.refl w8.heap.size w8).alloc (Nat.le_refl _) (.cells #[.string ⟨#[109,97,105,110]⟩,.string ⟨#[120]⟩] 9)
    have mK:=hid Gv
    clear Gv
    go_wp2_with fail
    refine(by exact tR.out _ mK.out _ (Qca.new w8 #[.string ⟨#[109,97,105,110]⟩,.string ⟨#[120]⟩] 9):Calls _ _ _ _ _).mono ?_
    rintro e w10 ⟨rfl,iW⟩
    have KD:=hid (mK.out.trans (iW.mono mK.out.size))
    have iu:=hid (ir.out.new KD.out)
    have oU:=hid (iv.out.new KD.out)
    have MH:=hid (M7.out.trans ((GW.out.trans (KD.out.mono GW.out.size)).mono M7.out.size))
    clear iW
    have cq:0<(Qhg (k0+1) T).length→(Qhg (k0+1) T).length≤vc2:=fun h0=>iv.out.cap h0
    go_upto_region 20 with fail
    obtain⟨gk1,rfl⟩:∃x:Nat,x=gk:=⟨_,rfl⟩
    go_loopg [19] (k0+1) (fun f x wr=>∃j:Nat,x = .int .i64 j∧j≤k0+1∧k0+1≤j+f∧Hid (Below w10.heap.size w10 wr))
    case atStart=>exact⟨0,rfl,by omega,by omega,hid (Below.refl _ _)⟩
    case round=>
     obtain⟨j,rfl,hj,hjf,mL⟩:=hrel
     by_cases Hj:j<k0+1
     ·have bJ:j*T.length+T.length≤(k0+1)*T.length:=by rw[←Nat.succ_mul];exact Nat.mul_le_mul_right _ Hj
      have M3:=Qxn oU.out Hj
      obtain⟨lo,nM⟩:∃lo:Nat,lo=j*T.length:=⟨_,rfl⟩
      have lG:(j:Int)*(T.length:Int)=(lo:Int):=by rw[nM];simp
      have bM:((j:Int)+1)*(T.length:Int)=(lo:Int)+(T.length:Int):=by rw[Int.add_mul,lG];simp
      rw[QAf]at mZ cq
      rw[←nM]at bJ M3
      have sm:(j:Int)<(k0:Int)+1:=by omega
      have nL:lo+T.length≤vc2:=by
       rcases Nat.eq_zero_or_pos ((k0+1)*T.length)with h0|h0
       ·rw[h0]at bJ;omega
       ·have:=cq h0;omega
      have fE:=M3.new mL.out
      unfold sliced at fE
      rw[Nat.add_sub_cancel_left]at fE
      clear M3
      by_cases kh:vc2=lo
      ·have rR:T.length=0:=by omega
       have HS:=hid (show Qxc wr (.slice va2 0 0) T from⟨va2,0,by rw[rR],fun h0=>by omega⟩)
       clear rR
       subst kh
       have KU:=hid (iu.out.in.new mL.out)
       clear nM fE
       go_wp2_with fail
       refine(by exact QPl _ _ T T wr HS.out KU.out (by omega) HT'.out:Calls _ _ _ _ _).mono ?_
       rintro e w11 ⟨bb,rfl,mu,jA⟩
       obtain rfl:bb=true:=mu.2 (by first|trivial|rfl)
       have cN:=hid (mL.out.trans (jA.mono mL.out.size))
       clear mu jA
       go_wp2_with fail
       go_roundg (gk-1)
       case measure=>omega
       case rel=>exact⟨j+1,by go_num,by omega,by omega,cN⟩
      ·have HS:=hid (show Qxc wr (.slice (va2.map (·.add (lo*7))) T.length (vc2-lo)) T from by rw[if_neg kh]at fE;exact fE)
       have KU:=hid (iu.out.in.new mL.out)
       clear nM fE
       go_wp2_with fail
       refine(by exact QPl _ _ T T wr HS.out KU.out (by omega) HT'.out:Calls _ _ _ _ _).mono ?_
       rintro e w11 ⟨bb,rfl,mu,jA⟩
       obtain rfl:bb=true:=mu.2 (by first|trivial|rfl)
       have cN:=hid (mL.out.trans (jA.mono mL.out.size))
       clear mu jA
       go_wp2_with fail
       go_roundg (gk-1)
       case measure=>omega
       case rel=>exact⟨j+1,by go_num,by omega,by omega,cN⟩
     ·obtain rfl:j=k0+1:=by omega
      have sm:¬(k0:Int)+1<(k0:Int)+1:=by omega
      have JA:=hid (MH.out.trans (mL.out.mono MH.out.size))
      go_wp2_with fail
      refine(by exact rx.out _ JA.out:Calls _ _ _ _ _).mono ?_
      rintro e w11 ⟨rfl,jA⟩
      go_wp2_with fail
      go_ret
      exact⟨rfl,jA⟩
   ·have pL:(er != 0)=true:=by rw[bne_iff_ne];exact he
    have HE:=hid he
    simp only[ne_eq,he,not_false_eq_true,if_true]at Gi cd
    clear he
    go_wp2_with fail
    refine(by exact br.out:Calls _ _ _ _ _).mono ?_
    rintro e w4 ⟨v1,rfl,GZ,Kb⟩
    obtain⟨va1,vc1,rfl⟩:=GZ.slice
    have dJ:=Kb.alloc Kb.size (.cells #[.int .i64 p1,.int .i64 p2,.int .i64 p3] 27)
    have jl:=hid dJ
    have tC:=dJ.size
    clear GZ Kb dJ
    go_upto_region 11 with fail
    generalize w4.alloc (.cells #[.int .i64 p1,.int .i64 p2,.int .i64 p3] 27)=w5 at *
    go_wp2_with fail
    refine(by exact Gi.out w5 jl.out:Calls _ _ _ _ _).mono ?_
    rintro e w6 ⟨v2,rfl,aJ,K8⟩
    obtain⟨va2,vc2,rfl⟩:=aJ.slice
    have cf:=K8.alloc K8.size (.cells #[.int .i64 p1,.int .i64 p2,.int .i64 p3] 27)
    have jX:=hid (jl.out.trans (cf.mono jl.out.size))
    have tD:=cf.size
    clear aJ K8 cf
    go_upto_region 12 with fail
    generalize w6.alloc (.cells #[.int .i64 p1,.int .i64 p2,.int .i64 p3] 27)=w7 at *
    go_wp2_with fail
    refine(by exact cd.out w7 jX.out:Calls _ _ _ _ _).mono ?_
    rintro e w8 ⟨v3,rfl,bX,GO⟩
    obtain⟨va3,vc3,rfl⟩:=Qma bX
    have GW:=hid (M7.out.trans ((jX.out.trans (GO.mono jX.out.size)).mono M7.out.size))
    clear bX GO
    go_wp2_with fail
    refine(by exact rx.out _ GW.out:Calls _ _ _ _ _).mono ?_
    rintro e w9 ⟨rfl,Gv⟩
    go_wp2_with fail
    go_ret
    exact⟨rfl,Gv⟩
end Go.Proofs.YtofhcgbihonckaaGreat
