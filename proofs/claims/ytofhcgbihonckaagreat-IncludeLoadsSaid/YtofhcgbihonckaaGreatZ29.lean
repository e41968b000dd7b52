/- Contracts of the reference of token: skip. | Contracts of the reference of token: next. | Contracts of the reference of token: next, references and words. | Contracts of the reference of token: next, signs. | The contract of Read of the reference of token. -/
import Derived.Test.YtofhcgbihonckaaGreatZ12
import Derived.Test.YtofhcgbihonckaaGreatZ13
import Derived.Deep.RegionHeld3
import Derived.IntWalk
set_option linter.all false
set_option maxHeartbeats 8000000
namespace Go.Proofs.YtofhcgbihonckaaGreat
open Go.Lib (hid)
open Go.RowKit
def QUf(s:ByteArray)(i:Nat)(line col:Int)(b:Nat)(w:World)(e:Ending)(w':World):Prop:=
 e = .returned (.int .i64 (if (blk (s.size-i) (s.data.toList.drop i)).2=true then 21 else 0))∧
 Qca w' b (QIa s (i+(blk (s.size-i) (s.data.toList.drop i)).1) (adv ((s.data.toList.drop i).take (blk (s.size-i) (s.data.toList.drop i)).1) (line,col)).1 (adv ((s.data.toList.drop i).take (blk (s.size-i) (s.data.toList.drop i)).1) (line,col)).2) 111∧Qaa (· = b) w w'
def At(s:ByteArray)(i:Nat)(line col:Int)(j:Nat)(l c:Int):Prop:=
 i≤j∧j≤s.size∧1≤l∧l≤j+1∧1≤c∧c≤j+1∧(l,c)=adv ((s.data.toList.drop i).take (j-i)) (line,col)
theorem At.go{s:ByteArray}{i:Nat}{line col:Int}{j:Nat}{l c:Int}(h:At s i line col j l c)(n:Nat)(hn:j+n≤s.size) :
 At s i line col (j+n) (adv ((s.data.toList.drop j).take n) (l,c)).1 (adv ((s.data.toList.drop j).take n) (l,c)).2:=by
 obtain⟨GV,hj,KA,KW,K5,kO,hA⟩:=h
 have Hm:=Qdh ((s.data.toList.drop j).take n) (l,c) KA K5
 have Kl:((s.data.toList.drop j).take n).length≤n:=by simp;omega
 exact⟨by omega,hn,Hm.1,by simp at Hm;omega,Hm.2.1,by simp at Hm;omega,by rw[hA,Qtk _ i j n GV]⟩
def QPr(s:ByteArray)(i:Nat)(line col:Int)(b:Nat)(w:World)(B:Nat × Bool)(f:Nat)(wr:World):Prop:=
 ∃j:Nat,∃l c:Int,At s i line col j l c∧s.size≤j+f∧B=((blk f (s.data.toList.drop j)).1+(j-i),(blk f (s.data.toList.drop j)).2)∧
  Qca wr b (QIa s j l c) 111∧Qaa (· = b) w wr
def QQr(s:ByteArray)(i:Nat)(line col:Int)(b:Nat)(w:World)(j:Nat)(f:Nat)(wr:World):Prop:=
 ∃j':Nat,∃l c:Int,At s i line col j' l c∧j≤j'∧s.size≤j'+f∧QWa Qzb (s.data.toList.drop j)=QWa Qzb (s.data.toList.drop j')+(j'-j)∧
  Qca wr b (QIa s j' l c) 111∧Qaa (· = b) w wr
def QRr(s:ByteArray)(b:Nat)(w:World)(j:Nat)(l c:Int)(f:Nat)(x:Value)(wr:World):Prop:=
 ∃n:Nat,2≤n∧j+n≤s.size∧s.size≤j+n+f∧x = .int .i64 n∧(∀m,m<n-2→Lib.occAt (s.data.toList.drop (j+2)) [42,47] m=false)∧
  Qca wr b (QIa s j l c) 111∧Qaa (· = b) w wr
theorem Qhi{s:ByteArray}{i:Nat}{line col:Int}{b:Nat}{w w2:World}{B:Nat × Bool}{j:Nat}{l c:Int}{x:Bool}{e:Ending}(hA:At s i line col j l c)(hB:B=(j-i,x))(HB:blk (s.size-i) (s.data.toList.drop i)=B)
 (hH:Qca w2 b (QIa s j l c) 111) (hK:Qaa (· = b) w w2) (he:e = .returned (.int .i64 (if x=true then 21 else 0))):QUf s i line col b w e w2:=by
 obtain⟨GV,hj,KA,KW,K5,kO,hA⟩:=hA
 unfold QUf
 rw[HB,hB]
 refine⟨he,?_,hK⟩
 simp only
 rw[←hA,show i+(j-i)=j from by omega]
 exact hH
theorem QWo(s:ByteArray)(j n:Nat)(h:2≤n):Lib.occAt (s.data.toList.drop (j+2)) [42,47] (n-2)=Lib.hasPrefix (s.data.toList.drop (j+n)) [42,47]:=by
 unfold Lib.occAt Lib.hasPrefix
 rw[List.drop_drop,show j+2+(n-2)=j+n from by omega]
theorem Q0n{s:ByteArray}{j n:Nat}(h2:2≤n)(h:∀m,m<n-2→Lib.occAt (s.data.toList.drop (j+2)) [42,47] m=false)(hn:Lib.hasPrefix (s.data.toList.drop (j+n)) [42,47]=false) :
 ∀m,m<n+1-2→Lib.occAt (s.data.toList.drop (j+2)) [42,47] m=false:=by
 intro m hm
 by_cases qI:m=n-2
 ·subst qI;rw[QWo s j n h2];exact hn
 ·exact h m (by omega)
theorem Q1n{s:ByteArray}{j n:Nat}(h2:2≤n)(hn:s.size≤j+n)(h:∀m,m<n-2→Lib.occAt (s.data.toList.drop (j+2)) [42,47] m=false):Lib.index (s.data.toList.drop (j+2)) [42,47] = -1:=by
 apply Lib.index_none
 intro m _
 by_cases qI:m<n-2
 ·exact h m qI
 ·unfold Lib.occAt
  rw[Bool.eq_false_iff]
  intro hp
  have:=(List.isPrefixOf_iff_prefix.1 hp).length_le
  simp at this;omega
theorem Q2m{s:ByteArray}{j:Nat}{l c:Int}{b:Nat}{w wx w':World}{t:TypeId}(hk:Qaa (fun _=>False) wx w')(hH:Qca wx b (QIa s j l c) t)(hK:Qaa (· = b) w wx) :
 w'.cell? ⟨b,0,none⟩=some (.string s)∧w'.cell? ⟨b,1,none⟩=some (.int .i64 j)∧Qca w' b (QIa s j l c) t∧Qaa (· = b) w w':=
 have h:=hH.keeps hk (fun x=>x)
 ⟨h.cell 0,h.cell 1,h,hK.trans hk (fun _ _ x=>x.elim)⟩
set_option maxRecDepth 100000 in
theorem Qxo(s:ByteArray)(i:Nat)(line col:Int)(b:Nat)(w:World)(h:Qca w b (QIa s i line col) 111)(hi:i≤s.size)(hs:s.size≤16000)
 (hl:1≤line) (hl':line≤i+1) (hc:1≤col) (hc':col≤i+1) :
 Calls Tryz.prog 60 #[.pointer (some ⟨b,0,none⟩)] w (QUf s i line col b w):=by
 generalize hB:blk (s.size-i) (s.data.toList.drop i)=B
 have HB:=hid hB;clear hB
 go_enter Tryz.func60,Tryz.ntmps60
 go_wp2_with fail
 go_loopg [] (s.size-i) (fun f wr=>QPr s i line col b w B f wr)
 case atStart=>exact⟨i,line,col,⟨by omega,hi,hl,hl',hc,hc',by simp[adv]⟩,by omega,by rw[HB.out];simp,h,Qaa.refl _ _⟩
 case round=>
  obtain⟨j,l,c,fu,hf,hE,hH,hK⟩:=hrel
  have sB:=fu
  obtain⟨GV,hj,KA,KW,K5,kO,hA⟩:=sB
  clear hA
  have HE:=hid hE;clear hE
  obtain⟨c0,c1,c2,c3,f0,f1,f2,f3⟩:=QMd hH
  have mG:=fun t wx hh ht=>Qle s t j l c b wx hh hj (by omega) ht
  have KS:=fun n wx hh hn=>Qci s j n l c b wx hh hn (by omega) KA KW K5 kO
  by_cases Hh:j<s.size
  ·obtain⟨f,rfl⟩:∃f',gk=f'+1:=⟨gk-1,by omega⟩
   have hD:=hid (QBa s j Hh)
   have kE:∀wx,Calls Tryz.prog 96 #[.int .u8 s[j].toNat,.string ⟨#[32,9,13,10]⟩] wx fun e w'=>e = .returned (.bool (Qqj s[j].toNat))∧w'=wx:=fun wx=>(QKg s[j].toNat ⟨#[32,9,13,10]⟩ wx (by simp[maxLen,ByteArray.size])).mono fun _ _ ⟨p,q⟩=>⟨p,q.symm⟩
   cases kZ:Qqj s[j].toNat
   ·have fe:=fun wx hh=>mG ⟨#[47,47]⟩ wx hh (by simp[ByteArray.size])
    have nC:=fun wx hh=>mG ⟨#[47,42]⟩ wx hh (by simp[ByteArray.size])
    change ∀wx hh,Calls _ _ _ _ fun e w'=>e = .returned (.bool (Lib.hasPrefix (s.data.toList.drop j) [47,47]))∧_ at fe
    change ∀wx hh,Calls _ _ _ _ fun e w'=>e = .returned (.bool (Lib.hasPrefix (s.data.toList.drop j) [47,42]))∧_ at nC
    have HS:=hid kZ
    rw[kZ]at kE
    clear kZ mG
    cases hp:Lib.hasPrefix (s.data.toList.drop j) [47,47]
    ·rw[hp]at fe
     have HP:=hid hp;clear hp
     cases hq:Lib.hasPrefix (s.data.toList.drop j) [47,42]
     ·rw[hq]at nC
      have km:=hid (show B=(j-i,false)from by rw[HE.out,hD.out,Qxk HS.out (by rw[←hD.out];exact HP.out) (by rw[←hD.out];exact hq)];simp)
      clear hq
      go_wp2_with fail
      go_quiet (fail)
      go_wp2_with fail
      go_quiet ((go_at_call 96;exact(kE _).mono fun _ _ ⟨p,q⟩=>⟨p,_,q⟩))
      go_wp2_with fail
      refine(fe _ (by exact hH)).mono ?_
      rintro e w1 ⟨rfl,n1,rfl⟩
      go_wp2_with fail
      refine(nC _ (by exact hH)).mono ?_
      rintro e w1 ⟨rfl,n2,rfl⟩
      go_wp2_with fail
      go_ret
      exact Qhi fu km.out HB.out hH (hK.drewN _) rfl
     ·rw[hq]at nC
      have Gr:j+2≤s.size:=by have:=Lib.hasPrefix_le hq;simp at this;omega
      have HQ:=hid hq;clear hq
      go_wp2_with fail
      go_quiet (fail)
      go_wp2_with fail
      go_quiet ((go_at_call 96;exact(kE _).mono fun _ _ ⟨p,q⟩=>⟨p,_,q⟩))
      go_wp2_with fail
      refine(fe _ (by exact hH)).mono ?_
      rintro e w1 ⟨rfl,n1,rfl⟩
      go_wp2_with fail
      refine(nC _ (by exact hH)).mono ?_
      rintro e w1 ⟨rfl,n2,rfl⟩
      go_wp2_with fail
      go_loopg [3] (s.size) (fun f x wr=>QRr s b w j l c f x wr)
      case atStart=>exact⟨2,by omega,Gr,by omega,rfl,by intro m hm;omega,hH,hK.drewN _⟩
      case round=>
       obtain⟨n,Jq,jj,oJ,rfl,mj,qi,jf⟩:=hrel
       have j9:=hid mj;clear mj
       obtain⟨d0,d1,d2,d3,g0,g1,g2,g3⟩:=QMd qi
       by_cases hltn:j+n<s.size
       ·have MG:=fun wx=>Qvo s (j+n) 0 0 wx (by omega) (by omega)
        unfold QIa at MG
        rw[show((j+n:Nat):Int)=(j:Int)+n from by omega]at MG
        have hd:decide ((j:Int)+n<s.size)=true:=by simp;omega
        have lC:=hid (show IntKind.i64.wrap ((j:Int)+n)=(j:Int)+n from IntWalk.i64_in _ (by omega))
        have J3:=lC.out
        cases he:Lib.hasPrefix (s.data.toList.drop (j+n)) [42,47]
        ·rw[he]at MG
         have cg:=hid he;clear he
         go_wp2_with fail
         go_region_held3 (fun wx=>wx.cell? ⟨b,0,none⟩=some (.string s)∧wx.cell? ⟨b,1,none⟩=some (.int .i64 j)∧Qca wx b (QIa s j l c) 111∧Qaa (· = b) w wx)
          (first
          | exact⟨d0,d1,qi,jf.drew⟩
          | (go_split_ands;exact Q2m (by assumption) (by assumption) (by assumption))
          | go_keep)
          (first
          | (go_at_call 98;refine(MG _).mono ?_;rintro e w' ⟨rfl,hk⟩))
         rename_i la
         obtain⟨_,_,kN,gc⟩:=la
         clear J3
         go_wp2_with fail
         go_roundg (gk-1)
         case measure=>omega
         case rel=>exact⟨n+1,by omega,by omega,by omega,by go_num,Q0n Jq j9.out cg.out,kN,gc⟩
        ·rw[he]at MG
         have oO:j+(n+2)≤s.size:=by have:=Lib.hasPrefix_le he;simp at this;omega
         have km:=hid (show B=((blk f (s.data.toList.drop (j+(n+2)))).1+(n+2)+(j-i),(blk f (s.data.toList.drop (j+(n+2)))).2)from by
          rw[HE.out,show n+2=(n-2)+4 from by omega,←List.drop_drop,hD.out,Qyk HS.out (by rw[←hD.out];exact HP.out) (by rw[←hD.out];exact HQ.out) (n-2) (by rw[←hD.out,List.drop_drop];exact Lib.index_first (by simp;omega) (by rw[QWo s j n Jq];exact he) j9.out)])
         have cg:=hid he;clear he
         go_wp2_with fail
         go_region_held3 (fun wx=>wx.cell? ⟨b,0,none⟩=some (.string s)∧wx.cell? ⟨b,1,none⟩=some (.int .i64 j)∧Qca wx b (QIa s j l c) 111∧Qaa (· = b) w wx)
          (first
          | exact⟨d0,d1,qi,jf.drew⟩
          | (go_split_ands;exact Q2m (by assumption) (by assumption) (by assumption))
          | go_keep)
          (first
          | (go_at_call 98;refine(MG _).mono ?_;rintro e w' ⟨rfl,hk⟩))
         rename_i la
         obtain⟨_,_,kN,gc⟩:=la
         have ji:decide ((s.size:Int)≤(j:Int)+n)=false:=by simp;omega
         go_wp2_with fail
         go_quiet (fail)
         clear J3
         go_wp2_with fail
         refine(KS (n+2) _ (by exact kN) oO).mono ?_
         rintro e w1 ⟨rfl,ko,g9⟩
         go_wp2_with fail
         go_roundg f
         case measure=>omega
         case rel=>exact⟨j+(n+2),_,_,fu.go (n+2) oO,by omega,by rw[km.out];congr 1;omega,ko,(gc.drewN _).trans g9 (fun _ _ h=>h)⟩
       ·have hd:decide ((j:Int)+n<s.size)=false:=by simp;omega
        have ji:decide ((s.size:Int)≤(j:Int)+n)=true:=by simp;omega
        have lC:=hid (show IntKind.i64.wrap ((j:Int)+n)=(j:Int)+n from IntWalk.i64_in _ (by omega))
        have km:=hid (show B=(j-i,true)from by
         rw[HE.out,hD.out,Q0l HS.out (by rw[←hD.out];exact HP.out) (by rw[←hD.out];exact HQ.out) (by rw[←hD.out,List.drop_drop,Q1n Jq (by omega) j9.out];omega)];simp)
        have J3:=lC.out
        go_wp2_with fail
        go_quiet (fail)
        go_wp2_with fail
        go_quiet (fail)
        clear J3
        go_wp2_with fail
        go_ret
        exact Qhi fu km.out HB.out qi ((jf.drewN _).drewN _) rfl
    ·have JY:1≤QWa Qzb (s.data.toList.drop j):=by
      have h1':=hp
      rw[hD.out]at h1'
      have e0:s[j]=47:=by simp[Lib.hasPrefix]at h1';exact h1'.1.symm
      rw[hD.out,QPb,if_pos (by rw[e0];decide)];omega
     have km:=hid (show B=((blk f (s.data.toList.drop (j+QWa Qzb (s.data.toList.drop j)))).1+QWa Qzb (s.data.toList.drop j)+(j-i),(blk f (s.data.toList.drop (j+QWa Qzb (s.data.toList.drop j)))).2)from by
      have h1':=hp
      rw[hD.out]at h1'
      rw[HE.out,←List.drop_drop,hD.out,Qwk HS.out h1'])
     rw[hp]at fe
     clear hp
     generalize hM:QWa Qzb (s.data.toList.drop j)=M at JY km
     have HM:=hid hM;clear hM
     go_wp2_with fail
     go_quiet (fail)
     go_wp2_with fail
     go_quiet ((go_at_call 96;exact(kE _).mono fun _ _ ⟨p,q⟩=>⟨p,_,q⟩))
     go_wp2_with fail
     refine(fe _ (by exact hH)).mono ?_
     rintro e w1 ⟨rfl,n1,rfl⟩
     go_wp2_with fail
     go_loopg [] (s.size) (fun f wr=>QQr s i line col b w j f wr)
     case atStart=>exact⟨j,l,c,fu,by omega,by omega,by omega,hH,hK.drewN _⟩
     case round=>
      obtain⟨j',l',c',cS,vE,JE,hR,Gv,ga⟩:=hrel
      have nF:=cS
      obtain⟨ij2,Gr,l1,l2,k1,k2,Gq⟩:=nF
      clear Gq
      have HR:=hid hR;clear hR
      obtain⟨d0,d1,d2,d3,g0,g1,g2,g3⟩:=QMd Gv
      have iD:=fun wx hh hn=>Qci s j' 1 l' c' b wx hh hn (by omega) l1 l2 k1 k2
      by_cases kp:j'<s.size
      ·have hd:decide ((j':Int)<s.size)=true:=by simp;omega
       have J7:=hid (QBa s j' kp)
       by_cases Gf:s[j'].toNat=10
       ·have Kh:((s[j'].toNat:Int) != 10)=false:=by simp[Gf]
        have G1:=hid (show M=j'-j from by rw[←HM.out,HR.out,J7.out,QPb,if_neg (by simp[Qzb,Gf])];omega)
        clear Gf
        go_wp2_with fail
        go_quiet (fail)
        go_wp2_with fail
        go_roundg f
        case measure=>omega
        case rel=>exact⟨j',l',c',cS,by have:=G1.out;omega,by have:=G1.out;rw[km.out,this,show j+(j'-j)=j' from by omega];congr 1;omega,Gv,ga.drewN _⟩
       ·have Kh:((s[j'].toNat:Int) != 10)=true:=by simp;omega
        have mu:=hid (show QWa Qzb (s.data.toList.drop j)=QWa Qzb (s.data.toList.drop (j'+1))+(j'+1-j)from by rw[HR.out,J7.out,QPb,if_pos (by simp[Qzb];omega)];omega)
        clear Gf
        go_wp2_with fail
        go_quiet (fail)
        go_wp2_with fail
        refine(iD _ (by exact Gv) (by omega)).mono ?_
        rintro e w1 ⟨rfl,kN,gc⟩
        go_wp2_with fail
        go_roundg (gk-1)
        case measure=>omega
        case rel=>exact⟨j'+1,_,_,cS.go 1 (by omega),by omega,by omega,mu.out,kN,(ga.drewN _).trans gc (fun _ _ h=>h)⟩
      ·have hd:decide ((j':Int)<s.size)=false:=by simp;omega
       have G1:=hid (show M=j'-j from by rw[←HM.out,HR.out,Qdb s j' (by omega)];simp[QWa])
       go_wp2_with fail
       go_quiet (fail)
       go_wp2_with fail
       go_roundg f
       case measure=>omega
       case rel=>exact⟨j',l',c',cS,by have:=G1.out;omega,by have:=G1.out;rw[km.out,this,show j+(j'-j)=j' from by omega];congr 1;omega,Gv,ga.drewN _⟩
   ·have km:=hid (show B=((blk f (s.data.toList.drop (j+1))).1+1+(j-i),(blk f (s.data.toList.drop (j+1))).2)from by rw[HE.out,hD.out,Q1l kZ])
    rw[kZ]at kE
    clear kZ mG
    go_wp2_with fail
    go_quiet (fail)
    go_wp2_with fail
    go_quiet ((go_at_call 96;exact(kE _).mono fun _ _ ⟨p,q⟩=>⟨p,_,q⟩))
    go_wp2_with fail
    refine(KS 1 _ (by exact hH) (by omega)).mono ?_
    rintro e w1 ⟨rfl,ko,g9⟩
    go_wp2_with fail
    go_roundg f
    case measure=>omega
    case rel=>exact⟨j+1,_,_,fu.go 1 (by omega),by omega,by rw[km.out];congr 1;omega,ko,(hK.drewN _).trans g9 (fun _ _ h=>h)⟩
  ·have km:=hid (show B=(j-i,false)from by rw[HE.out,Qdb s j (by omega)];cases gk <;> simp[blk])
   go_wp2_with fail
   go_quiet (fail)
   go_wp2_with fail
   go_ret
   exact Qhi fu km.out HB.out hH (hK.drewN _) rfl
theorem Q2c(s:ByteArray)(a n:Nat):s.extract a (a+n)=⟨((s.data.toList.drop a).take n).toArray⟩:=by
 rw[QPc,List.drop_take,show a+n-a=n from by omega]
theorem QEj(s:ByteArray)(a:Nat)(h:a<s.size):(s.data.toList.drop a).headD 0=s[a]:=by rw[QBa s a h];rfl
theorem Qqg(s:ByteArray)(a n:Nat)(h:a+n<s.size):(s.data.toList.drop a).getD n 0=s[a+n]:=by
 rw[←Qgm s (a+n) h,List.getD_eq_getElem?_getD,List.getD_eq_getElem?_getD,List.getElem?_drop]
def Qsc(s:ByteArray)(a:Nat)(w:World)(e:Ending)(w':World):Prop:=
 ∃(t:Tok) (n:Nat),e = .returned (.tuple #[Qfb 0 t,.int .i64 n,.int .i64 (QJa (s.data.toList.drop a)).2.2])∧
  ((QJa (s.data.toList.drop a)).2.2=0→t=(QJa (s.data.toList.drop a)).1∧n=(QJa (s.data.toList.drop a)).2.1)∧Below w.heap.size w w'
theorem Qsc.of{s:ByteArray}{a:Nat}{w w':World}{e:Ending}{t:Tok}{n:Nat}{er:Int}(h:QJa (s.data.toList.drop a)=(t,n,er))(he:e = .returned (.tuple #[Qfb 0 t,.int .i64 n,.int .i64 er]))(hb:Below w.heap.size w w'):Qsc s a w e w':=
 ⟨t,n,by rw[h];exact he,by rw[h];exact fun _=>⟨rfl,rfl⟩,hb⟩
theorem Qsc.bad{s:ByteArray}{a:Nat}{w w':World}{e:Ending}{t t':Tok}{n n':Nat}{er:Int}(h:QJa (s.data.toList.drop a)=(t,n,er))(h0:er≠0)(he:e = .returned (.tuple #[Qfb 0 t',.int .i64 n',.int .i64 er]))(hb:Below w.heap.size w w'):Qsc s a w e w':=
 ⟨t',n',by rw[h];exact he,by rw[h];exact fun x=>absurd x h0,hb⟩
theorem QNg(s:ByteArray)(a:Nat):(s.data.toList.drop a).length=s.size-a:=by simp
set_option maxRecDepth 100000 in
theorem Qyl(s:ByteArray)(a:Nat)(line col:Int)(w:World)(hs:s.size≤16000)(h1:a<s.size)(hc:Qka s[a].toNat=true∨(s[a].toNat:Int)=95∨(s[a].toNat:Int)=35) :
 Calls Tryz.prog 61 #[.agg (QIa s a line col)] w (Qsc s a w):=by
 unfold QIa
 have hH:=QEj s a h1
 have hF:=hid (show QJa (s.data.toList.drop a)=if QWa Q9a (s.data.toList.drop a)=(s.data.toList.drop a).length∨((s.data.toList.drop a).getD (QWa Q9a (s.data.toList.drop a)) 0).toNat≠58 then(⟨1,(s.data.toList.drop a).take (QWa Q9a (s.data.toList.drop a)),0,0,0⟩,QWa Q9a (s.data.toList.drop a),0)
  else if QQf QPa ((s.data.toList.drop a).take (QWa Q9a (s.data.toList.drop a)))=true then(⟨5,(s.data.toList.drop a).take (QWa Q9a (s.data.toList.drop a)),0,0,0⟩,QWa Q9a (s.data.toList.drop a)+1,0)else(⟨0,[],0,0,0⟩,0,6)from by unfold QJa;simp only[hH];rw[if_pos hc])
 have gX:∀wx,Calls Tryz.prog 100 #[.string s,.int .i64 a,.bool true] wx fun e w'=>e = .returned (.int .i64 (QWa Q9a (s.data.toList.drop a)))∧wx=w':=fun wx=>Q8j s a true wx (by omega) (by omega)
 have hn:=QGc Q9a (s.data.toList.drop a)
 have Ha:=fun wx=>Qaj (s.extract a (a+QWa Q9a (s.data.toList.drop a))) wx (by unfold maxLen;simp;omega)
 rw[Q2c]at Ha
 simp only at Ha
 generalize QWa Q9a (s.data.toList.drop a)=n at hF gX hn Ha
 rw[←Q2c]at Ha
 have HR:=hid gX;clear gX
 have HA:=hid Ha;clear Ha
 have hn':a+n≤s.size:=by simp at hn;omega
 clear hn hH
 have Hx:Qka s[a].toNat=true∨Qka s[a].toNat=false∧((s[a].toNat:Int) == 95)=true∨Qka s[a].toNat=false∧((s[a].toNat:Int) == 95)=false∧((s[a].toNat:Int) == 35)=true:=by
  by_cases x:Qka s[a].toNat=true
  ·exact .inl x
  ·have x':Qka s[a].toNat=false:=by simpa using x
   by_cases b:(s[a].toNat:Int)=95
   ·exact .inr (.inl ⟨x',by simpa using b⟩)
   ·have c:(s[a].toNat:Int)=35:=by rcases hc with h|h|h;exact absurd h x;exact absurd h b;exact h
    exact .inr (.inr ⟨x',by simpa using b,by simpa using c⟩)
 clear hc
 by_cases Hh:a+n<s.size
 ·have hg:=Qqg s a n Hh
  by_cases Jh:s[a+n].toNat=58
  ·have fm:((s[a+n].toNat:Int) == 58)=true:=by simp[Jh]
   cases hw:QQf QPa ((s.data.toList.drop a).take n)
   ·have hR:=hid (show QJa (s.data.toList.drop a)=(⟨0,[],0,0,0⟩,0,6)from by rw[hF.out,if_neg,if_neg (by simp[hw])];rintro (h|h);rw[QNg]at h;omega;rw[hg]at h;exact h Jh)
    clear Jh hg
    rcases Hx with h|⟨h,h'⟩|⟨h,h',h''⟩
    all_goals
     go_enter Tryz.func61,Tryz.ntmps61
     go_wp2_with fail
     go_quiet (fail)
     go_wp2_with (first | (go_at_call 99;refine(Qhb _ _).mono ?_;rintro e w' ⟨rfl,rfl⟩) | (go_at_call 100;refine(HR.out _).mono ?_;rintro e w' ⟨rfl,rfl⟩) | (go_at_call 101;refine(HA.out _).mono ?_;rintro e w' ⟨rfl,rfl⟩))
     exact bodyPost_ret (v:=.tuple #[.agg #[.int .i64 5,.string (s.extract a (a+n)),.int .i64 0,.int .i64 0,.int .i64 0,.int .i64 0],.int .i64 0,.int .i64 6]) (by simp[results,Tryz.results61,go_sem]) rfl (Qsc.bad (t':=⟨5,_,0,0,0⟩) (n':=0) hR.out (by decide) (by rw[Q2c];rfl) (by repeat (first|with_reducible exact Below.refl _ _|with_reducible assumption|with_reducible refine Below.setCell ?_ (by simp) _|with_reducible refine Below.alloc ?_ (by simp;try omega) _|with_reducible refine below_drewN ?_ _|with_reducible refine Below.drew ?_)))
   ·have hR:=hid (show QJa (s.data.toList.drop a)=(⟨5,(s.data.toList.drop a).take n,0,0,0⟩,n+1,0)from by rw[hF.out,if_neg,if_pos hw];rintro (h|h);rw[QNg]at h;omega;rw[hg]at h;exact h Jh)
    clear Jh hg
    rcases Hx with h|⟨h,h'⟩|⟨h,h',h''⟩
    all_goals
     go_enter Tryz.func61,Tryz.ntmps61
     go_wp2_with fail
     go_quiet (fail)
     go_wp2_with (first | (go_at_call 99;refine(Qhb _ _).mono ?_;rintro e w' ⟨rfl,rfl⟩) | (go_at_call 100;refine(HR.out _).mono ?_;rintro e w' ⟨rfl,rfl⟩) | (go_at_call 101;refine(HA.out _).mono ?_;rintro e w' ⟨rfl,rfl⟩))
     exact bodyPost_ret (v:=.tuple #[.agg #[.int .i64 5,.string (s.extract a (a+n)),.int .i64 0,.int .i64 0,.int .i64 0,.int .i64 0],.int .i64 (n+1),.int .i64 0]) (by simp[results,Tryz.results61,go_sem]) rfl (Qsc.of hR.out (by rw[Q2c];rfl) (by repeat (first|with_reducible exact Below.refl _ _|with_reducible assumption|with_reducible refine Below.setCell ?_ (by simp) _|with_reducible refine Below.alloc ?_ (by simp;try omega) _|with_reducible refine below_drewN ?_ _|with_reducible refine Below.drew ?_)))
  ·have fm:((s[a+n].toNat:Int) == 58)=false:=by simp;omega
   have hR:=hid (show QJa (s.data.toList.drop a)=(⟨1,(s.data.toList.drop a).take n,0,0,0⟩,n,0)from by rw[hF.out,if_pos];right;rw[hg];exact Jh)
   clear Jh hg
   rcases Hx with h|⟨h,h'⟩|⟨h,h',h''⟩
   all_goals
    go_enter Tryz.func61,Tryz.ntmps61
    go_wp2_with fail
    go_quiet (fail)
    go_wp2_with (first | (go_at_call 99;refine(Qhb _ _).mono ?_;rintro e w' ⟨rfl,rfl⟩) | (go_at_call 100;refine(HR.out _).mono ?_;rintro e w' ⟨rfl,rfl⟩) | (go_at_call 101;refine(HA.out _).mono ?_;rintro e w' ⟨rfl,rfl⟩))
    exact bodyPost_ret (v:=.tuple #[.agg #[.int .i64 1,.string (s.extract a (a+n)),.int .i64 0,.int .i64 0,.int .i64 0,.int .i64 0],.int .i64 n,.int .i64 0]) (by simp[results,Tryz.results61,go_sem]) rfl (Qsc.of hR.out (by rw[Q2c];rfl) (by repeat (first|with_reducible exact Below.refl _ _|with_reducible assumption|with_reducible refine Below.setCell ?_ (by simp) _|with_reducible refine Below.alloc ?_ (by simp;try omega) _|with_reducible refine below_drewN ?_ _|with_reducible refine Below.drew ?_)))
 ·have hR:=hid (show QJa (s.data.toList.drop a)=(⟨1,(s.data.toList.drop a).take n,0,0,0⟩,n,0)from by rw[hF.out,if_pos];left;rw[QNg];omega)
  rcases Hx with h|⟨h,h'⟩|⟨h,h',h''⟩
  all_goals
   go_enter Tryz.func61,Tryz.ntmps61
   go_wp2_with fail
   go_quiet (fail)
   go_wp2_with (first | (go_at_call 99;refine(Qhb _ _).mono ?_;rintro e w' ⟨rfl,rfl⟩) | (go_at_call 100;refine(HR.out _).mono ?_;rintro e w' ⟨rfl,rfl⟩) | (go_at_call 101;refine(HA.out _).mono ?_;rintro e w' ⟨rfl,rfl⟩))
   exact bodyPost_ret (v:=.tuple #[.agg #[.int .i64 1,.string (s.extract a (a+n)),.int .i64 0,.int .i64 0,.int .i64 0,.int .i64 0],.int .i64 n,.int .i64 0]) (by simp[results,Tryz.results61,go_sem]) rfl (Qsc.of hR.out (by rw[Q2c];rfl) (by repeat (first|with_reducible exact Below.refl _ _|with_reducible assumption|with_reducible refine Below.setCell ?_ (by simp) _|with_reducible refine Below.alloc ?_ (by simp;try omega) _|with_reducible refine below_drewN ?_ _|with_reducible refine Below.drew ?_)))
theorem Q7i(c:Int)(hc:¬(Qka c=true∨c=95∨c=35)):Qka c=false∧(c == 95)=false∧(c == 35)=false:=Qjh c hc
set_option maxRecDepth 100000 in
theorem Qak(s:ByteArray)(a:Nat)(line col:Int)(w:World)(hs:s.size≤16000)(h1:a<s.size)(hc:¬(Qka s[a].toNat=true∨(s[a].toNat:Int)=95∨(s[a].toNat:Int)=35))(hd:QSa s[a].toNat=true) :
 Calls Tryz.prog 61 #[.agg (QIa s a line col)] w (Qsc s a w):=by
 unfold QIa
 have hH:=QEj s a h1
 have hF:=hid (show QJa (s.data.toList.drop a)=(⟨2,[],(QMe ((s.data.toList.drop a).take (QWa QPa (s.data.toList.drop a)))).1,0,0⟩,QWa QPa (s.data.toList.drop a),(QMe ((s.data.toList.drop a).take (QWa QPa (s.data.toList.drop a)))).2)from by unfold QJa;simp only[hH];rw[if_neg hc,if_pos hd])
 have gX:∀wx,Calls Tryz.prog 100 #[.string s,.int .i64 a,.bool false] wx fun e w'=>e = .returned (.int .i64 (QWa QPa (s.data.toList.drop a)))∧wx=w':=fun wx=>Q8j s a false wx (by omega) (by omega)
 have hn:=QGc QPa (s.data.toList.drop a)
 have Ge:=fun wx=>Qxl (s.extract a (a+QWa QPa (s.data.toList.drop a))) wx (by unfold maxLen;simp;omega)
 rw[Q2c]at Ge
 simp only at Ge
 generalize QWa QPa (s.data.toList.drop a)=n at hF gX hn Ge
 rw[←Q2c]at Ge
 generalize QMe ((s.data.toList.drop a).take n)=N at hF Ge
 have HR:=hid gX;clear gX
 have HA:=hid Ge;clear Ge
 have hn':a+n≤s.size:=by simp at hn;omega
 clear hn hH
 obtain⟨h,h',h''⟩:=Q7i _ hc
 have JT:48≤(s[a].toNat:Int):=by unfold QSa at hd;simp at hd;omega
 have ab:(s[a].toNat:Int)≤57:=by unfold QSa at hd;simp at hd;omega
 clear hc hd
 go_enter Tryz.func61,Tryz.ntmps61
 go_wp2_with fail
 go_quiet (fail)
 go_wp2_with (first | (go_at_call 99;refine(Qhb _ _).mono ?_;rintro e w' ⟨rfl,rfl⟩) | (go_at_call 100;refine(HR.out _).mono ?_;rintro e w' ⟨rfl,rfl⟩) | (go_at_call 102;refine(HA.out _).mono ?_;rintro e w' ⟨rfl,nd,rfl⟩))
 exact bodyPost_ret (v:=.tuple #[.agg #[.int .i64 2,.string ⟨#[]⟩,.int .i64 N.1,.int .i64 0,.int .i64 0,.int .i64 0],.int .i64 n,.int .i64 N.2]) (by simp[results,Tryz.results61,go_sem]) rfl (Qsc.of hF.out rfl (by repeat (first|with_reducible exact Below.refl _ _|with_reducible assumption|with_reducible refine Below.setCell ?_ (by simp) _|with_reducible refine Below.alloc ?_ (by simp;try omega) _|with_reducible refine below_drewN ?_ _|with_reducible refine Below.drew ?_)))
theorem Qgr(w:World)(o:Obj)(cs:Array Value)(t:TypeId):Qca ((w.alloc o).alloc (.cells cs t)) (w.heap.size+1) cs t:=by
 have h:=Qca.new (w.alloc o) cs t
 rwa [show(w.alloc o).heap.size=w.heap.size+1 from by simp]at h
set_option maxRecDepth 100000 in
theorem Qbj(s:ByteArray)(a:Nat)(line col:Int)(w:World)(hs:s.size≤16000)(h1:a<s.size)(hc:¬(Qka s[a].toNat=true∨(s[a].toNat:Int)=95∨(s[a].toNat:Int)=35))(hd:QSa s[a].toNat=false)(hq:(s[a].toNat:Int)=34) :
 Calls Tryz.prog 61 #[.agg (QIa s a line col)] w (Qsc s a w):=by
 unfold QIa
 have hH:=QEj s a h1
 have hF:=hid (show QJa (s.data.toList.drop a)=(⟨3,(qtA (s.size-a) (s.data.toList.drop (a+1)) [] 1).1,0,0,0⟩,(qtA (s.size-a) (s.data.toList.drop (a+1)) [] 1).2.1,(qtA (s.size-a) (s.data.toList.drop (a+1)) [] 1).2.2)from by
  unfold QJa;simp only[hH];rw[if_neg hc,if_neg (by simp[hd]),if_pos hq,QNg,List.drop_drop])
 have Ge:=fun wx=>Qyo s a wx (by omega) h1
 unfold Qqk at Ge
 generalize qtA (s.size-a) (s.data.toList.drop (a+1)) [] 1=Q at hF Ge
 have HA:=hid Ge;clear Ge
 have hq':((s[a].toNat:Int) == 34)=true:=by simpa using hq
 have JT:decide (48≤(s[a].toNat:Int))=false:=by simp;omega
 obtain⟨h,h',h''⟩:=Q7i _ hc
 clear hc hq hH hd
 go_enter Tryz.func61,Tryz.ntmps61
 go_wp2_with fail
 go_quiet (fail)
 go_wp2_with (first | (go_at_call 99;refine(Qhb _ _).mono ?_;rintro e w' ⟨rfl,rfl⟩))
 refine(HA.out _).mono ?_
 rintro e w1 ⟨rfl,Hf⟩
 have hB:Qca w1 (w.heap.size+1) #[.int .i64 0,.string ⟨#[]⟩,.int .i64 0,.int .i64 0,.int .i64 0,.int .i64 0] 65:=(Hf.block (w.heap.size+1) (by simp)).trans (Qgr w _ _ _).out
 obtain⟨⟨c0,c1,c2,c3,c4,c5⟩,f0,f1,f2,f3,f4,f5⟩:=six hB
 have Hh:=hB.lt
 have Ho:Below w.heap.size w w1:=Below.trans (by repeat (first|with_reducible exact Below.refl _ _|with_reducible assumption|with_reducible refine Below.setCell ?_ (by simp) _|with_reducible refine Below.alloc ?_ (by simp;try omega) _|with_reducible refine below_drewN ?_ _|with_reducible refine Below.drew ?_)) (Hf.mono (by simp;omega))
 go_wp2_with fail
 exact bodyPost_ret (v:=.tuple #[.agg #[.int .i64 3,.string ⟨Q.1.toArray⟩,.int .i64 0,.int .i64 0,.int .i64 0,.int .i64 0],.int .i64 Q.2.1,.int .i64 Q.2.2]) (by simp[results,Tryz.results61,go_sem,c0,c1,c2,c3,c4,c5]) rfl (Qsc.of hF.out rfl (by repeat (first|with_reducible exact Below.refl _ _|with_reducible assumption|with_reducible refine Below.setCell ?_ (by simp) _|with_reducible refine Below.alloc ?_ (by simp;try omega) _|with_reducible refine below_drewN ?_ _|with_reducible refine Below.drew ?_)))
theorem Q7k(s:ByteArray)(a n:Nat):s.extract (a+1) (a+1+n)=⟨(((s.data.toList.drop a).take (n+1)).drop 1).toArray⟩:=by
 rw[Q2c,List.drop_take,List.drop_drop,show n+1-1=n from by omega]
set_option maxRecDepth 100000 in
theorem Q3m(s:ByteArray)(a:Nat)(line col:Int)(w:World)(hs:s.size≤16000)(h1:a<s.size)(hc:¬(Qka s[a].toNat=true∨(s[a].toNat:Int)=95∨(s[a].toNat:Int)=35))(hd:QSa s[a].toNat=false)(hq:¬(s[a].toNat:Int)=34)(Mk:(s[a].toNat:Int)=38)(gy:a+1<s.size)(hl:Qka s[a+1].toNat=true∨(s[a+1].toNat:Int)=95) :
 Calls Tryz.prog 61 #[.agg (QIa s a line col)] w (Qsc s a w):=by
 unfold QIa
 have hH:=QEj s a h1
 have hG:=Qqg s a 1 gy
 have hF:=hid (show QJa (s.data.toList.drop a)=(⟨6,((s.data.toList.drop a).take (QWa QPa (s.data.toList.drop (a+1))+1)).drop 1,0,0,0⟩,QWa QPa (s.data.toList.drop (a+1))+1,0)from by
  unfold QJa;simp only[hH];rw[if_neg hc,if_neg (by simp[hd]),if_neg hq,if_pos ⟨Mk,by rw[QNg];omega,by rw[hG];rcases hl with h|h;exact .inl h;right;omega⟩,List.drop_drop])
 have gX:∀wx,Calls Tryz.prog 100 #[.string s,.int .i64 ((a:Int)+1),.bool false] wx fun e w'=>e = .returned (.int .i64 (QWa QPa (s.data.toList.drop (a+1))))∧wx=w':=fun wx=>Q8j s (a+1) false wx (by omega) (by omega)
 have hn:=QGc QPa (s.data.toList.drop (a+1))
 generalize QWa QPa (s.data.toList.drop (a+1))=n at hF gX hn
 have HR:=hid gX;clear gX
 have hn':a+1+n≤s.size:=by simp at hn;omega
 have hq':((s[a].toNat:Int) == 34)=false:=by simpa using hq
 have fj:((s[a].toNat:Int) == 38)=true:=by simpa using Mk
 have JT:decide (48≤(s[a].toNat:Int))=false:=by simp;omega
 obtain⟨h,h',h''⟩:=Q7i _ hc
 clear hn hH hG hc hq Mk hd
 have Hx:Qka s[a+1].toNat=true∨Qka s[a+1].toNat=false∧((s[a+1].toNat:Int) == 95)=true:=by
  cases hx:Qka s[a+1].toNat
  ·right;rcases hl with h|h;rw[hx]at h;cases h;exact⟨rfl,by simpa using h⟩
  ·exact .inl rfl
 clear hl
 rcases Hx with g|⟨g,g'⟩
 all_goals
  go_enter Tryz.func61,Tryz.ntmps61
  go_wp2_with fail
  go_quiet (fail)
  go_wp2_with (first | (go_at_call 99;refine(Qhb _ _).mono ?_;rintro e w' ⟨rfl,rfl⟩) | (go_at_call 100;refine(HR.out _).mono ?_;rintro e w' ⟨rfl,rfl⟩))
  exact bodyPost_ret (v:=.tuple #[.agg #[.int .i64 6,.string (s.extract (a+1) (a+1+n)),.int .i64 0,.int .i64 0,.int .i64 0,.int .i64 0],.int .i64 (n+1),.int .i64 0]) (by simp[results,Tryz.results61,go_sem]) rfl (Qsc.of hF.out (by rw[Q7k];rfl) (by repeat (first|with_reducible exact Below.refl _ _|with_reducible assumption|with_reducible refine Below.setCell ?_ (by simp) _|with_reducible refine Below.alloc ?_ (by simp;try omega) _|with_reducible refine below_drewN ?_ _|with_reducible refine Below.drew ?_)))
theorem Qgn{l:List UInt8}(h:Q0c l≠0):(QWa QYa (l.drop 1) > 0∧QWa QYa (l.drop 1)+1<l.length∧(l.getD (QWa QYa (l.drop 1)+1) 0).toNat=47)∧Q0c l=QWa QYa (l.drop 1)+2:=by
 unfold Q0c at h ⊢
 split at h
 ·rename_i g;exact⟨g,by rw[if_pos g]⟩
 ·exact absurd rfl h
theorem QDl{l:List UInt8}(h:Q0c l=0):¬(QWa QYa (l.drop 1) > 0∧QWa QYa (l.drop 1)+1<l.length∧(l.getD (QWa QYa (l.drop 1)+1) 0).toNat=47):=by
 unfold Q0c at h
 intro g
 rw[if_pos g]at h
 omega
set_option maxRecDepth 100000 in
theorem Qzl(s:ByteArray)(a:Nat)(line col:Int)(w:World)(hs:s.size≤16000)(h1:a<s.size)(hc:¬(Qka s[a].toNat=true∨(s[a].toNat:Int)=95∨(s[a].toNat:Int)=35))(hd:QSa s[a].toNat=false)(hq:¬(s[a].toNat:Int)=34)(KT:(s[a].toNat:Int)=47)(KR:Q0c (s.data.toList.drop a)≠0) :
 Calls Tryz.prog 61 #[.agg (QIa s a line col)] w (Qsc s a w):=by
 unfold QIa
 have hH:=QEj s a h1
 obtain⟨hp,hv⟩:=Qgn KR
 have hF:=hid (show QJa (s.data.toList.drop a)=(⟨7,((s.data.toList.drop a).take (QWa QYa ((s.data.toList.drop a).drop 1)+1)).drop 1,0,0,0⟩,QWa QYa ((s.data.toList.drop a).drop 1)+2,0)from by
  unfold QJa;simp only[hH];rw[if_neg hc,if_neg (by simp[hd]),if_neg hq,if_neg (by rintro ⟨x,_⟩;omega),if_pos KT,if_pos hp])
 have Jt:=fun wx=>QMg s a wx (by omega) h1
 rw[hv]at Jt
 have hn:a+(QWa QYa ((s.data.toList.drop a).drop 1)+2)≤s.size:=by have:=hp.2.1;rw[QNg]at this;omega
 clear hp KR hv
 generalize QWa QYa ((s.data.toList.drop a).drop 1)=n at hF Jt hn
 have dD:∀wx,Calls Tryz.prog 104 #[.string s,.int .i64 a] wx fun e w'=>e = .returned (.int .i64 ((n:Int)+2))∧wx=w':=Jt
 have HR:=hid dD;clear Jt dD
 have hq':((s[a].toNat:Int) == 34)=false:=by simpa using hq
 have fj:((s[a].toNat:Int) == 38)=false:=by simp;omega
 have nD:((s[a].toNat:Int) == 47)=true:=by simpa using KT
 have JT:decide (48≤(s[a].toNat:Int))=false:=by simp;omega
 obtain⟨h,h',h''⟩:=Q7i _ hc
 clear hH hc hq KT hd
 go_enter Tryz.func61,Tryz.ntmps61
 go_wp2_with fail
 go_quiet (fail)
 go_wp2_with (first | (go_at_call 99;refine(Qhb _ _).mono ?_;rintro e w' ⟨rfl,rfl⟩) | (go_at_call 104;refine(HR.out _).mono ?_;rintro e w' ⟨rfl,rfl⟩))
 exact bodyPost_ret (v:=.tuple #[.agg #[.int .i64 7,.string (s.extract (a+1) (a+(n+1))),.int .i64 0,.int .i64 0,.int .i64 0,.int .i64 0],.int .i64 (n+2),.int .i64 0]) (by simp[results,Tryz.results61,go_sem]) rfl (Qsc.of hF.out (by rw[show a+(n+1)=a+1+n from by omega,Q7k];rfl) (by repeat (first|with_reducible exact Below.refl _ _|with_reducible assumption|with_reducible refine Below.setCell ?_ (by simp) _|with_reducible refine Below.alloc ?_ (by simp;try omega) _|with_reducible refine below_drewN ?_ _|with_reducible refine Below.drew ?_)))
def QWi(k:Nat):ByteArray:=⟨(QVa.getD k []).toArray⟩
def QXi:Array Value:=#[.string ⟨#[60,60]⟩,.string ⟨#[62,62]⟩,.string ⟨#[60,61]⟩,.string ⟨#[62,61]⟩,.string ⟨#[61,61]⟩,.string ⟨#[33,61]⟩,.string ⟨#[38,38]⟩,.string ⟨#[124,124]⟩]
theorem Qie{p:Nat→Prop}(h0:p 0)(h1:p 1)(h2:p 2)(h3:p 3)(h4:p 4)(h5:p 5)(h6:p 6)(h7:p 7):∀k,k<8→p k
 | 0,_=>h0
 | 1,_=>h1
 | 2,_=>h2
 | 3,_=>h3
 | 4,_=>h4
 | 5,_=>h5
 | 6,_=>h6
 | 7,_=>h7
 | n+8,h=>absurd h (by omega)
theorem QYi:∀k,k<8→QXi[k]? = some (.string (QWi k)):=Qie rfl rfl rfl rfl rfl rfl rfl rfl
theorem Q0i:∀k,k<8→(QWi k).size=2:=Qie rfl rfl rfl rfl rfl rfl rfl rfl
theorem Q6n:∀k,k<8→QVa.getD k []∈QVa:=Qie (by decide) (by decide) (by decide) (by decide) (by decide) (by decide) (by decide) (by decide)
theorem Q5n:∀k,k<8→(QVa.getD k []).length=2:=Qie rfl rfl rfl rfl rfl rfl rfl rfl
theorem QPk{l:List UInt8}{k:Nat}(hk:k<8)(h:Lib.hasPrefix l (QVa.getD k [])=true):Qyc l=2∧l.take 2=QVa.getD k []:=by
 constructor
 ·unfold Qyc
  rw[if_pos]
  exact List.any_eq_true.2 ⟨_,Q6n k hk,h⟩
 ·have:=List.prefix_iff_eq_take.1 (List.isPrefixOf_iff_prefix.1 h)
  rw[Q5n k hk]at this
  exact this.symm
theorem QZi{l:List UInt8}(h:∀m,m<8→Lib.hasPrefix l (QVa.getD m [])=false):Qyc l=if QYd Qbd (l.headD 0).toNat=true then 1 else 0:=by
 unfold Qyc
 rw[if_neg]
 have e:QVa=[QVa.getD 0 [],QVa.getD 1 [],QVa.getD 2 [],QVa.getD 3 [],QVa.getD 4 [],QVa.getD 5 [],QVa.getD 6 [],QVa.getD 7 []]:=rfl
 rw[e]
 simp only[List.any_cons,List.any_nil]
 rw[h 0 (by omega),h 1 (by omega),h 2 (by omega),h 3 (by omega),h 4 (by omega),h 5 (by omega),h 6 (by omega),h 7 (by omega)]
 decide
theorem Q2l{w:World}{b:Nat}{cs:Array Value}{t:TypeId}(h:Qca w b cs t){k:Nat}{v:Value}(hv:cs[k]? = some v):w.cell? ⟨b,k,none⟩=some v:=by rw[h.cell k,hv]
def QHr(s:ByteArray)(a:Nat)(line col:Int)(w:World)(f:Nat)(y:Value)(wr:World):Prop:=
 ∃k:Nat,k≤8∧8≤k+f∧y = .int .i64 k∧(∀m,m<k→Lib.hasPrefix (s.data.toList.drop a) (QVa.getD m [])=false)∧Qca wr w.heap.size (QIa s a line col) 111∧
  Qca wr (w.heap.size+1) #[.int .i64 0,.string ⟨#[]⟩,.int .i64 0,.int .i64 0,.int .i64 0,.int .i64 0] 65∧Qca wr (w.heap.size+2) QXi 9∧Below w.heap.size w wr
theorem QKr(w:World)(o p:Obj)(n:Nat)(cs:Array Value)(t:TypeId):Qca ((((w.alloc o).alloc p).drewN n).alloc (.cells cs t)) (w.heap.size+2) cs t:=by
 have h:=Qca.new (((w.alloc o).alloc p).drewN n) cs t
 rwa [show(((w.alloc o).alloc p).drewN n).heap.size=w.heap.size+2 from by simp]at h
def Q7o(s:ByteArray)(a:Nat)(h1:a<s.size):Prop:=
 (((s[a].toNat:Int) == 38)=false∧((s[a].toNat:Int) == 47)=false)∨(((s[a].toNat:Int) == 38)=true∧((s[a].toNat:Int) == 47)=false∧¬a+1<s.size)∨
 (((s[a].toNat:Int) == 38)=true∧((s[a].toNat:Int) == 47)=false∧∃g:a+1<s.size,Qka s[a+1].toNat=false∧((s[a+1].toNat:Int) == 95)=false)∨
 (((s[a].toNat:Int) == 38)=false∧((s[a].toNat:Int) == 47)=true∧Hid (Q0c (s.data.toList.drop a)=0))
set_option maxRecDepth 100000 in
theorem Qme(s:ByteArray)(a:Nat)(line col:Int)(w:World)(hs:s.size≤16000)(h1:a<s.size)(hc:¬(Qka s[a].toNat=true∨(s[a].toNat:Int)=95∨(s[a].toNat:Int)=35))(hd:QSa s[a].toNat=false)(hq:¬(s[a].toNat:Int)=34)
 (hway:Q7o s a h1) (Hk:QJa (s.data.toList.drop a)=sgT (s.data.toList.drop a)) :
 Calls Tryz.prog 61 #[.agg (QIa s a line col)] w (Qsc s a w):=by
 have hH:=QEj s a h1
 have kA:=hid Hk;clear Hk
 have hq':((s[a].toNat:Int) == 34)=false:=by simpa using hq
 have JT:¬(48≤(s[a].toNat:Int)∧(s[a].toNat:Int)≤57):=by unfold QSa at hd;simpa using hd
 have qq:decide (48≤(s[a].toNat:Int))=false∨decide (48≤(s[a].toNat:Int))=true∧decide ((s[a].toNat:Int)≤57)=false:=by
  by_cases x:48≤(s[a].toNat:Int)
  ·right;simp;omega
  ·left;simp;omega
 obtain⟨h,h',h''⟩:=Q7i _ hc
 have Jt:=fun wx=>QMg s a wx (by omega) h1
 have HH:=hid hH
 have wN:=hid Jt
 have kE:∀wx,Calls Tryz.prog 96 #[.int .u8 s[a].toNat,.string ⟨#[123,125,40,41,60,62,91,93,59,61,44,43,45,42,47,37,38,124,94,126,33,63,58]⟩] wx fun e w'=>e = .returned (.bool (QYd Qbd s[a].toNat))∧wx=w':=fun wx=>QKg s[a].toNat ⟨#[123,125,40,41,60,62,91,93,59,61,44,43,45,42,47,37,38,124,94,126,33,63,58]⟩ wx (by simp[maxLen,ByteArray.size])
 have pU:=hid kE
 have ns:Q0c (s.data.toList.drop a)=0→Hid (∀wx,Calls Tryz.prog 104 #[.string s,.int .i64 a] wx fun e w'=>e = .returned (.int .i64 0)∧wx=w'):=by
  intro e wx
  have:=wN.out wx
  rw[e]at this
  exact this
 have rT:=hid ns
 clear hH hc hq hd JT Jt kE ns
 have Hx:(decide (48≤(s[a].toNat:Int))=true∧decide ((s[a].toNat:Int)≤57)=false∧((s[a].toNat:Int) == 38)=false∧((s[a].toNat:Int) == 47)=false)∨
  (decide (48≤(s[a].toNat:Int))=false∧((s[a].toNat:Int) == 38)=false∧((s[a].toNat:Int) == 47)=false)∨
  (decide (48≤(s[a].toNat:Int))=false∧((s[a].toNat:Int) == 38)=true∧((s[a].toNat:Int) == 47)=false∧¬a+1<s.size)∨
  (decide (48≤(s[a].toNat:Int))=false∧((s[a].toNat:Int) == 38)=true∧((s[a].toNat:Int) == 47)=false∧∃g:a+1<s.size,Qka s[a+1].toNat=false∧((s[a+1].toNat:Int) == 95)=false)∨
  (decide (48≤(s[a].toNat:Int))=false∧((s[a].toNat:Int) == 38)=false∧((s[a].toNat:Int) == 47)=true∧Hid (Q0c (s.data.toList.drop a)=0)):=by
  rcases hway with⟨x,y⟩|⟨x,y,z⟩|⟨x,y,z⟩|⟨x,y,z⟩
  ·rcases qq with d|⟨d,d'⟩
   ·exact .inr (.inl ⟨d,x,y⟩)
   ·exact .inl ⟨d,d',x,y⟩
  ·refine .inr (.inr (.inl ⟨?_,x,y,z⟩));simp at x ⊢;omega
  ·refine .inr (.inr (.inr (.inl ⟨?_,x,y,z⟩)));simp at x ⊢;omega
  ·refine .inr (.inr (.inr (.inr ⟨?_,x,y,z⟩)));simp at y ⊢;omega
 clear hway qq
 unfold QIa
 rcases Hx with⟨x1,x2,x3,x4⟩|⟨x1,x2,x3⟩|⟨x1,x2,x3,x4⟩|⟨x1,x2,x3,x4,x5,x6⟩|⟨x1,x2,x3,x4⟩
 rotate_left 4
 ·have nt:=rT.out x4.out
  go_enter Tryz.func61,Tryz.ntmps61
  go_wp2_with fail
  go_quiet (fail)
  go_upto_region 25 with(first | (go_at_call 99;refine(Qhb _ _).mono ?_;rintro e w' ⟨rfl,rfl⟩) | (go_at_call 104;refine(nt.out _).mono ?_;rintro e w' ⟨rfl,rfl⟩))
  go_wp2_with fail
  go_loopg [173] 8 (fun f y wr=>QHr s a line col w f y wr)
  case atStart=>exact⟨0,by omega,by omega,rfl,by intro m hm;omega,(((Qca.new w _ _).alloc _).drewN _).alloc _,((Qgr w _ _ _).drewN _).alloc _,QKr w _ _ _ _ _,(by repeat (first|with_reducible exact Below.refl _ _|with_reducible assumption|with_reducible refine Below.setCell ?_ (by simp) _|with_reducible refine Below.alloc ?_ (by simp;try omega) _|with_reducible refine below_drewN ?_ _|with_reducible refine Below.drew ?_))⟩
  case round=>
   obtain⟨k,hk,hf,rfl,mj,hB,hT,hP,gI⟩:=hrel
   have j9:=hid mj;clear mj
   obtain⟨⟨c0,c1,c2,c3,c4,c5⟩,f0,f1,f2,f3,f4,f5⟩:=six hT
   have Hh:=hT.lt
   by_cases gE:k<8
   ·have ym:=Q2l hP (QYi k gE)
    have ML:∀wx,Qca wx w.heap.size (QIa s a line col) 111→Calls Tryz.prog 97 #[.pointer (some ⟨w.heap.size,0,none⟩),.string (QWi k)] wx fun e w'=>e = .returned (.bool (Lib.hasPrefix (s.data.toList.drop a) (QVa.getD k [])))∧∃n,w'=wx.drewN n:=fun wx hh=>Qle s (QWi k) a line col _ wx hh (by omega) (by omega) (by rw[Q0i k gE];omega)
    cases hp:Lib.hasPrefix (s.data.toList.drop a) (QVa.getD k [])
    ·rw[hp]at ML
     have Mj:=hid hp;clear hp
     go_wp2_with fail
     refine(ML _ (by exact hB)).mono ?_
     rintro e w1 ⟨rfl,n1,rfl⟩
     go_wp2_with fail
     go_roundg (gk-1)
     case measure=>omega
     case rel=>exact⟨k+1,by omega,by omega,by go_num,by intro m hm;rcases Nat.lt_succ_iff_lt_or_eq.1 hm with h|rfl;exact j9.out m h;exact Mj.out,hB,hT,hP,below_drewN gI _⟩
    ·rw[hp]at ML
     obtain⟨e1,e2⟩:=QPk gE hp
     have hR:=hid (show QJa (s.data.toList.drop a)=(⟨4,QVa.getD k [],0,0,0⟩,2,0)from by rw[kA.out];unfold sgT;rw[e1,if_pos (by omega),e2])
     clear hp e1 e2
     go_wp2_with fail
     refine(ML _ (by exact hB)).mono ?_
     rintro e w1 ⟨rfl,n1,rfl⟩
     go_wp2_with fail
     exact bodyPost_ret (v:=.tuple #[.agg #[.int .i64 4,.string (QWi k),.int .i64 0,.int .i64 0,.int .i64 0,.int .i64 0],.int .i64 2,.int .i64 0]) (by simp[results,Tryz.results61,go_sem,c0,c1,c2,c3,c4,c5]) rfl (Qsc.of hR.out rfl (by repeat (first|with_reducible exact Below.refl _ _|with_reducible assumption|with_reducible refine Below.setCell ?_ (by simp) _|with_reducible refine Below.alloc ?_ (by simp;try omega) _|with_reducible refine below_drewN ?_ _|with_reducible refine Below.drew ?_)))
   ·have hk:k=8:=by omega
    subst hk
    have pI:=hid (QZi j9.out)
    cases hm:QYd Qbd s[a].toNat
    ·have hR:=hid (show QJa (s.data.toList.drop a)=(⟨0,[],0,0,0⟩,0,20)from by rw[kA.out];unfold sgT;rw[pI.out,HH.out,hm];simp)
     go_wp2_with (first | (go_at_call 96;refine(pU.out _).mono ?_;rintro e w' ⟨rfl,rfl⟩))
     exact bodyPost_ret (v:=.tuple #[.agg #[.int .i64 0,.string ⟨#[]⟩,.int .i64 0,.int .i64 0,.int .i64 0,.int .i64 0],.int .i64 0,.int .i64 20]) (by simp[results,Tryz.results61,go_sem,c0,c1,c2,c3,c4,c5]) rfl (Qsc.of hR.out rfl (by repeat (first|with_reducible exact Below.refl _ _|with_reducible assumption|with_reducible refine Below.setCell ?_ (by simp) _|with_reducible refine Below.alloc ?_ (by simp;try omega) _|with_reducible refine below_drewN ?_ _|with_reducible refine Below.drew ?_)))
    ·have hR:=hid (show QJa (s.data.toList.drop a)=(⟨4,(s.data.toList.drop a).take 1,0,0,0⟩,1,0)from by rw[kA.out];unfold sgT;rw[pI.out,HH.out,hm];simp)
     go_wp2_with (first | (go_at_call 96;refine(pU.out _).mono ?_;rintro e w' ⟨rfl,rfl⟩))
     exact bodyPost_ret (v:=.tuple #[.agg #[.int .i64 4,.string (s.extract a (a+1)),.int .i64 0,.int .i64 0,.int .i64 0,.int .i64 0],.int .i64 1,.int .i64 0]) (by simp[results,Tryz.results61,go_sem,c0,c1,c2,c3,c4,c5]) rfl (Qsc.of hR.out (by rw[Q2c];rfl) (by repeat (first|with_reducible exact Below.refl _ _|with_reducible assumption|with_reducible refine Below.setCell ?_ (by simp) _|with_reducible refine Below.alloc ?_ (by simp;try omega) _|with_reducible refine below_drewN ?_ _|with_reducible refine Below.drew ?_)))
 all_goals
  go_enter Tryz.func61,Tryz.ntmps61
  go_wp2_with fail
  go_quiet (fail)
  go_upto_region 25 with(first | (go_at_call 99;refine(Qhb _ _).mono ?_;rintro e w' ⟨rfl,rfl⟩))
  go_wp2_with fail
  go_loopg [173] 8 (fun f y wr=>QHr s a line col w f y wr)
  case atStart=>exact⟨0,by omega,by omega,rfl,by intro m hm;omega,(((Qca.new w _ _).alloc _).drewN _).alloc _,((Qgr w _ _ _).drewN _).alloc _,QKr w _ _ _ _ _,(by repeat (first|with_reducible exact Below.refl _ _|with_reducible assumption|with_reducible refine Below.setCell ?_ (by simp) _|with_reducible refine Below.alloc ?_ (by simp;try omega) _|with_reducible refine below_drewN ?_ _|with_reducible refine Below.drew ?_))⟩
  case round=>
   obtain⟨k,hk,hf,rfl,mj,hB,hT,hP,gI⟩:=hrel
   have j9:=hid mj;clear mj
   obtain⟨⟨c0,c1,c2,c3,c4,c5⟩,f0,f1,f2,f3,f4,f5⟩:=six hT
   have Hh:=hT.lt
   by_cases gE:k<8
   ·have ym:=Q2l hP (QYi k gE)
    have ML:∀wx,Qca wx w.heap.size (QIa s a line col) 111→Calls Tryz.prog 97 #[.pointer (some ⟨w.heap.size,0,none⟩),.string (QWi k)] wx fun e w'=>e = .returned (.bool (Lib.hasPrefix (s.data.toList.drop a) (QVa.getD k [])))∧∃n,w'=wx.drewN n:=fun wx hh=>Qle s (QWi k) a line col _ wx hh (by omega) (by omega) (by rw[Q0i k gE];omega)
    cases hp:Lib.hasPrefix (s.data.toList.drop a) (QVa.getD k [])
    ·rw[hp]at ML
     have Mj:=hid hp;clear hp
     go_wp2_with fail
     refine(ML _ (by exact hB)).mono ?_
     rintro e w1 ⟨rfl,n1,rfl⟩
     go_wp2_with fail
     go_roundg (gk-1)
     case measure=>omega
     case rel=>exact⟨k+1,by omega,by omega,by go_num,by intro m hm;rcases Nat.lt_succ_iff_lt_or_eq.1 hm with h|rfl;exact j9.out m h;exact Mj.out,hB,hT,hP,below_drewN gI _⟩
    ·rw[hp]at ML
     obtain⟨e1,e2⟩:=QPk gE hp
     have hR:=hid (show QJa (s.data.toList.drop a)=(⟨4,QVa.getD k [],0,0,0⟩,2,0)from by rw[kA.out];unfold sgT;rw[e1,if_pos (by omega),e2])
     clear hp e1 e2
     go_wp2_with fail
     refine(ML _ (by exact hB)).mono ?_
     rintro e w1 ⟨rfl,n1,rfl⟩
     go_wp2_with fail
     exact bodyPost_ret (v:=.tuple #[.agg #[.int .i64 4,.string (QWi k),.int .i64 0,.int .i64 0,.int .i64 0,.int .i64 0],.int .i64 2,.int .i64 0]) (by simp[results,Tryz.results61,go_sem,c0,c1,c2,c3,c4,c5]) rfl (Qsc.of hR.out rfl (by repeat (first|with_reducible exact Below.refl _ _|with_reducible assumption|with_reducible refine Below.setCell ?_ (by simp) _|with_reducible refine Below.alloc ?_ (by simp;try omega) _|with_reducible refine below_drewN ?_ _|with_reducible refine Below.drew ?_)))
   ·have hk:k=8:=by omega
    subst hk
    have pI:=hid (QZi j9.out)
    cases hm:QYd Qbd s[a].toNat
    ·have hR:=hid (show QJa (s.data.toList.drop a)=(⟨0,[],0,0,0⟩,0,20)from by rw[kA.out];unfold sgT;rw[pI.out,HH.out,hm];simp)
     go_wp2_with (first | (go_at_call 96;refine(pU.out _).mono ?_;rintro e w' ⟨rfl,rfl⟩))
     exact bodyPost_ret (v:=.tuple #[.agg #[.int .i64 0,.string ⟨#[]⟩,.int .i64 0,.int .i64 0,.int .i64 0,.int .i64 0],.int .i64 0,.int .i64 20]) (by simp[results,Tryz.results61,go_sem,c0,c1,c2,c3,c4,c5]) rfl (Qsc.of hR.out rfl (by repeat (first|with_reducible exact Below.refl _ _|with_reducible assumption|with_reducible refine Below.setCell ?_ (by simp) _|with_reducible refine Below.alloc ?_ (by simp;try omega) _|with_reducible refine below_drewN ?_ _|with_reducible refine Below.drew ?_)))
    ·have hR:=hid (show QJa (s.data.toList.drop a)=(⟨4,(s.data.toList.drop a).take 1,0,0,0⟩,1,0)from by rw[kA.out];unfold sgT;rw[pI.out,HH.out,hm];simp)
     go_wp2_with (first | (go_at_call 96;refine(pU.out _).mono ?_;rintro e w' ⟨rfl,rfl⟩))
     exact bodyPost_ret (v:=.tuple #[.agg #[.int .i64 4,.string (s.extract a (a+1)),.int .i64 0,.int .i64 0,.int .i64 0,.int .i64 0],.int .i64 1,.int .i64 0]) (by simp[results,Tryz.results61,go_sem,c0,c1,c2,c3,c4,c5]) rfl (Qsc.of hR.out (by rw[Q2c];rfl) (by repeat (first|with_reducible exact Below.refl _ _|with_reducible assumption|with_reducible refine Below.setCell ?_ (by simp) _|with_reducible refine Below.alloc ?_ (by simp;try omega) _|with_reducible refine below_drewN ?_ _|with_reducible refine Below.drew ?_)))
theorem Qhe{l:List UInt8}{c:UInt8}(hH:l.headD 0=c)(hc:¬(Qka c.toNat=true∨(c.toNat:Int)=95∨(c.toNat:Int)=35))(hd:QSa c.toNat=false)(hq:¬(c.toNat:Int)=34)
 (Mk:¬((c.toNat:Int)=38∧1<l.length∧(Qka (l.getD 1 0).toNat=true∨(l.getD 1 0).toNat=95))) (KT:(c.toNat:Int)=47→Q0c l=0):QJa l=sgT l:=by
 unfold QJa;simp only[hH];rw[if_neg hc,if_neg (by simp[hd]),if_neg hq,if_neg Mk]
 by_cases h:(c.toNat:Int)=47
 ·rw[if_pos h,if_neg (QDl (KT h))];rfl
 ·rw[if_neg h];rfl
theorem Qwo(s:ByteArray)(a:Nat)(line col:Int)(w:World)(hs:s.size≤16000)(h1:a<s.size):Calls Tryz.prog 61 #[.agg (QIa s a line col)] w (Qsc s a w):=by
 have hH:=QEj s a h1
 by_cases hc:Qka s[a].toNat=true∨(s[a].toNat:Int)=95∨(s[a].toNat:Int)=35
 ·exact Qyl s a line col w hs h1 hc
 ·cases hd:QSa s[a].toNat
  ·by_cases hq:(s[a].toNat:Int)=34
   ·exact Qbj s a line col w hs h1 hc hd hq
   ·by_cases KT:(s[a].toNat:Int)=47
    ·by_cases KR:Q0c (s.data.toList.drop a)=0
     ·exact Qme s a line col w hs h1 hc hd hq (.inr (.inr (.inr ⟨by simp;omega,by simpa using KT,KR⟩))) (Qhe hH hc hd hq (by rintro ⟨x,_⟩;omega) (fun _=>KR))
     ·exact Qzl s a line col w hs h1 hc hd hq KT KR
    ·by_cases Mk:(s[a].toNat:Int)=38
     ·by_cases gy:a+1<s.size
      ·have hG:=Qqg s a 1 gy
       by_cases hl:Qka s[a+1].toNat=true∨(s[a+1].toNat:Int)=95
       ·exact Q3m s a line col w hs h1 hc hd hq Mk gy hl
       ·refine Qme s a line col w hs h1 hc hd hq (.inr (.inr (.inl ⟨by simpa using Mk,by simp;omega,gy,?_,?_⟩))) (Qhe hH hc hd hq (by rintro ⟨_,_,x⟩;rw[hG]at x;apply hl;rcases x with x|x;exact .inl x;right;omega) (fun x=>absurd x KT))
        ·cases hx:Qka s[a+1].toNat;rfl;exact absurd (.inl hx) hl
        ·simp;intro hx;exact hl (.inr hx)
      ·exact Qme s a line col w hs h1 hc hd hq (.inr (.inl ⟨by simpa using Mk,by simp;omega,gy⟩)) (Qhe hH hc hd hq (by rintro ⟨_,x,_⟩;rw[QNg]at x;omega) (fun x=>absurd x KT))
     ·exact Qme s a line col w hs h1 hc hd hq (.inl ⟨by simp;omega,by simp;omega⟩) (Qhe hH hc hd hq (by rintro ⟨x,_⟩;omega) (fun x=>absurd x KT))
  ·exact Qak s a line col w hs h1 hc hd
def Qpr(s:ByteArray)(file:Int)(w:World)(R:List Tok × (Int × Int × Int) × Int)(f:Nat)(v:Value)(wr:World):Prop:=
 ∃(j:Nat) (l c:Int) (toks:List Tok),j≤s.size∧s.size<j+f∧1≤l∧l≤j+1∧1≤c∧c≤j+1∧rdA file f (s.data.toList.drop j) (l,c) toks=R∧toks.length≤6000∧
  wr.ownsRow (w.heap.size+2) 65 6 v toks.length (Qyb file toks)∧Qca wr (w.heap.size+1) (QIa s j l c) 111∧Qca wr w.heap.size #[.int .i64 0,.int .i64 0,.int .i64 0] 27∧Below w.heap.size w wr
theorem Quo(s:ByteArray)(file:Int)(w:World)(hs:s.size≤maxLen) :
 Calls Tryz.prog 33 #[.string s,.int .i64 file] w (Qbe s file w):=by
 unfold maxLen at hs
 by_cases aQ:16000<s.size
 ·have hF:=hid (show QUb s.data.toList file=([],(0,0,0),3)from by unfold QUb;rw[Qve,if_pos aQ])
  go_enter Tryz.func33,Tryz.ntmps33
  go_wp2_with fail
  exact bodyPost_ret (v:=.tuple #[.slice none 0 0,.agg #[.int .i64 0,.int .i64 0,.int .i64 0],.int .i64 3]) (by simp[results,Tryz.results33,go_sem]) rfl ⟨_,by rw[hF.out];rfl,by rw[hF.out];exact World.ownsRow_nil _ _ _ _,by repeat (first|with_reducible exact Below.refl _ _|with_reducible assumption|with_reducible refine Below.setCell ?_ (by first|omega|simp) _|with_reducible refine Below.alloc ?_ (by first|omega | (simp;omega) | simp) _|with_reducible refine below_drewN ?_ _|with_reducible refine Below.drew ?_)⟩
 ·have aQ:s.size≤16000:=by omega
  have hF:QUb s.data.toList file=rdA file (s.size+1) s.data.toList (1,1) []:=by unfold QUb;rw[Qve,if_neg (by omega)]
  unfold Qbe
  generalize QUb s.data.toList file=R at hF
  have HF:=hid hF;clear hF
  go_enter Tryz.func33,Tryz.ntmps33
  go_wp2_with fail
  go_loopg [8] (s.size+1) (fun f v wr=>Qpr s file w R f v wr)
  case atStart=>exact⟨0,1,1,[],by omega,by omega,by omega,by omega,by omega,by omega,HF.out.symm,by simp,World.ownsRow_nil _ _ _ _,Qgr w _ (QIa s 0 1 1) _,(Qca.new w _ _).alloc _,by repeat (first|with_reducible exact Below.refl _ _|with_reducible assumption|with_reducible refine Below.setCell ?_ (by first|omega|simp) _|with_reducible refine Below.alloc ?_ (by first|omega | (simp;omega) | simp) _|with_reducible refine below_drewN ?_ _|with_reducible refine Below.drew ?_)⟩
  case round=>
   obtain⟨j,l,c,toks,hj,hf,KA,KW,K5,kO,hE,H7,Hi,hH,hP,gI⟩:=hrel
   obtain⟨f,rfl⟩:∃f',gk=f'+1:=⟨gk-1,by omega⟩
   have kW:=Qxo s j l c (w.heap.size+1) wr hH hj aQ KA KW K5 kO
   unfold QUf at kW
   have GP:=Qzk s j (s.size-j) hj
   have ME:blk (s.data.toList.drop j).length (s.data.toList.drop j)=blk (s.size-j) (s.data.toList.drop j):=by congr 1;simp
   generalize blk (s.size-j) (s.data.toList.drop j)=B at kW GP ME
   obtain⟨bn,bx⟩:=B
   simp only at kW GP
   have Hm:=Qdh ((s.data.toList.drop j).take bn) (l,c) KA K5
   have Hl:((s.data.toList.drop j).take bn).length≤bn:=by simp;omega
   have Gx:=@QTm file f (s.data.toList.drop j) (l,c) toks _ ME
   have gZ:=@QUk file f (s.data.toList.drop j) (l,c) toks _ ME
   have gq:=@QUm file f (s.data.toList.drop j) (l,c) toks _ ME
   have gu:=@QVm file f (s.data.toList.drop j) (l,c) toks _ ME
   have gv:=@Q1o file f (s.data.toList.drop j) (l,c) toks _ ME
   simp only at Gx gZ gq gu gv Hm
   rw[List.drop_drop]at gq gu gv
   rw[hE]at Gx gZ gq gu gv
   generalize adv ((s.data.toList.drop j).take bn) (l,c)=p1 at kW Hm Gx gZ gq gu gv
   obtain⟨l1,c1⟩:=p1
   simp only at kW Hm Gx gZ gq gu gv
   obtain⟨k1,k2,k3,k4⟩:=Hm
   have k3':l1≤(j+bn:Nat)+1:=by omega
   have k4':c1≤(j+bn:Nat)+1:=by omega
   clear hE k3 k4 Hl ME
   generalize Gr:j+bn=j2 at kW GP gq gu gv k3' k4'
   have vE:j≤j2:=by omega
   clear Gr
   have HC:=hid Gx;clear Gx
   have ej:=hid gZ;clear gZ
   have em:=hid gq;clear gq
   have lG:=hid gu;clear gu
   have lH:=hid gv;clear gv
   have qV:=hid kW;clear kW
   obtain⟨ao,cap,rfl⟩:=QLc Hi
   go_wp2_with fail
   refine qV.out.mono ?_
   rintro e w1 ⟨rfl,ko,g9⟩
   have mf:=hP.keeps g9 (by omega)
   have Hf:Below w.heap.size w w1:=gI.trans (g9.below gI.size (by intro i hi;omega))
   have gJ:=Qba Hi g9 (by intro g hg;have:=(Hi.lt g hg).1;omega)
   have gy:=g9.size
   have JZ:=Hf.size
   have ig:=ko.lt
   have oX:=mf.lt
   obtain⟨q0,q1,q2,q3,q4,q5⟩:=tri mf
   obtain⟨r0,r1,r2,r3,r4,r5,r6,r7⟩:=QMd ko
   cases bx with
   | true=>
    have hR:=hid (HC.out rfl)
    go_wp2_with fail
    go_region
    go_wp2_with fail
    exact bodyPost_ret (v:=.tuple #[.slice none 0 0,.agg #[.int .i64 file,.int .i64 l1,.int .i64 c1],.int .i64 21]) (by simp[results,Tryz.results33,go_sem,q0,q1,q2,oX]) rfl ⟨_,by rw[hR.out];rfl,by rw[hR.out];exact World.ownsRow_nil _ _ _ _,by repeat (first|with_reducible exact Below.refl _ _|with_reducible assumption|with_reducible refine Below.setCell ?_ (by first|omega|simp) _|with_reducible refine Below.alloc ?_ (by first|omega | (simp;omega) | simp) _|with_reducible refine below_drewN ?_ _|with_reducible refine Below.drew ?_)⟩
   | false=>
    by_cases h6:toks.length=6000
    ·have h6':((toks.length:Int) == 6000)=true:=by simp[h6]
     have hR:=hid (ej.out rfl h6)
     clear h6
     go_wp2_with fail
     go_region
     go_wp2_with fail
     exact bodyPost_ret (v:=.tuple #[.slice none 0 0,.agg #[.int .i64 file,.int .i64 l1,.int .i64 c1],.int .i64 3]) (by simp[results,Tryz.results33,go_sem,q0,q1,q2,oX]) rfl ⟨_,by rw[hR.out];rfl,by rw[hR.out];exact World.ownsRow_nil _ _ _ _,by repeat (first|with_reducible exact Below.refl _ _|with_reducible assumption|with_reducible refine Below.setCell ?_ (by first|omega|simp) _|with_reducible refine Below.alloc ?_ (by first|omega | (simp;omega) | simp) _|with_reducible refine below_drewN ?_ _|with_reducible refine Below.drew ?_)⟩
    ·have h6':((toks.length:Int) == 6000)=false:=by simp;omega
     have sy:toks.length<6000:=by omega
     have H6:=hid h6;clear h6
     by_cases gj:j2=s.size
     ·have oC:((j2:Int) == (s.size:Int))=true:=by simp;omega
      have hR:=hid (em.out rfl H6.out (Qdb s j2 (by omega)))
      clear gj
      obtain⟨i0,hi,GE,GF,GA⟩:=info_parts QSh
      go_wp2_with (at_builtin;refine wpList_append_own _ rfl _ _ 57 rfl (w.heap.size+2) 65 i0 _ 6 56 Tryz.underlying57 hi GE GF GA rfl (by decide) _ _ _ rfl ((gJ.alloc _).alloc _) ⟨w1.heap.size+1,0,none⟩ 1 1 (QHb file ⟨8,[],0,l1,c1⟩) rfl rfl ?c1 ?c2 ?c3 ?c4 ?c5 ?_)
      case c1=>exact Q3a _ _ _ _ (by simp) _ rfl
      case c2=>exact Qki _ _
      case c3=>unfold maxLen;omega
      case c4=>omega
      case c5=>simp;omega
      intro v' w3 Hq Hb _
      have jU:∀g,(Value.slice ao toks.length cap).ownBlock=some g→w.heap.size+2≤g:=fun g hg=>(gJ.lt g hg).1
      have kC:Qca w3 w.heap.size #[.int .i64 0,.int .i64 0,.int .i64 0] 27:=((mf.alloc _).alloc _).grown Hb (fun e=>by have:=jU _ e;omega)
      have gm:Below w.heap.size w w3:=((Hf.alloc (by omega) _).alloc (by simp;omega) _).grown Hb (by simp;omega) (fun g hg=>by have:=jU g hg;omega)
      obtain⟨p0,p1,p2,p3,p4,p5⟩:=tri kC
      have gK:w3.ownsRow w.heap.size 65 6 v' (toks.length+1) (Qyb file (toks++[⟨8,[],0,l1,c1⟩])):=by rw[Qrc];exact QLf Hq (by omega)
      have ik:∀g,v'.ownBlock=some g→¬g=w.heap.size:=fun g hg=>by have:=(Hq.lt g hg).1;omega
      have jH:=kC.lt
      clear Hq Hb
      obtain⟨ao',cap',rfl⟩:=QLc gK
      go_wp2_with fail
      exact bodyPost_ret (v:=.tuple #[.slice ao' (toks.length+1) cap',.agg #[.int .i64 0,.int .i64 0,.int .i64 0],.int .i64 0]) (by simp[results,Tryz.results33,go_sem,p0,p1,p2]) rfl ⟨_,by rw[hR.out];rfl,by
       rw[hR.out]
       simp only[List.length_append,List.length_singleton]
       exact Qba gK ((((Qaa.refl (fun i=>i=w.heap.size) w3).setCell (.inr rfl) _).setCell (.inr rfl) _).setCell (.inr rfl) _) ik,
       by repeat (first|with_reducible exact Below.refl _ _|with_reducible assumption|with_reducible refine Below.setCell ?_ (by first|omega|simp) _|with_reducible refine Below.alloc ?_ (by first|omega | (simp;omega) | simp) _|with_reducible refine below_drewN ?_ _|with_reducible refine Below.drew ?_)⟩
     ·have Gr:j2<s.size:=by omega
      have oC:((j2:Int) == (s.size:Int))=false:=by simp;omega
      have cw:s.data.toList.drop j2≠[]:=by rw[QBa s j2 Gr];simp
      have kr:=fun wx=>Qwo s j2 l1 c1 wx aQ Gr
      unfold Qsc at kr
      have Gy:=Qph (s.data.toList.drop j2) cw
      have bW:=fun n hn wx hh=>Qci s j2 n l1 c1 (w.heap.size+1) wx hh hn (by omega) k1 k3' k2 k4'
      have mJ:=hid (fun h=>lG.out rfl H6.out cw rfl h)
      have mK:=hid (fun h=>lH.out rfl H6.out cw rfl h)
      clear lG lH em ej HC
      simp only[List.length_drop]at Gy
      generalize QJa (s.data.toList.drop j2)=T at kr Gy mJ mK
      obtain⟨tk,tn,te⟩:=T
      simp only at kr Gy mJ mK
      have gU:=hid kr;clear kr
      have eT:=hid bW;clear bW
      clear gj
      go_wp2_with fail
      refine(gU.out _).mono ?_
      rintro e w2 ⟨tk',tn',rfl,kT,jE⟩
      unfold Qfb
      have jf:Qaa (fun _=>False) _ w2:=Qaa.of_fresh jE _
      have Gv:=(ko.alloc _).keeps jf (fun e=>e)
      have GR:=(mf.alloc _).keeps jf (fun e=>e)
      have aY:=(Qca.new w1 _ _).keeps jf (fun e=>e)
      have gK:=Qba (gJ.alloc _) jf (fun _ _ e=>e)
      have Ho:Below w.heap.size w w2:=(Hf.alloc JZ _).trans (jE.mono (by simp;omega))
      have gB:=jf.size
      simp at gB
      have tD:=Ho.size
      clear q0 q1 q2 q3 q4 q5 r0 r1 r2 r3 r4 r5 r6 r7
      obtain⟨q0,q1,q2,q3,q4,q5⟩:=tri GR
      obtain⟨r0,r1,r2,r3,r4,r5,r6,r7⟩:=QMd Gv
      obtain⟨u0,u1,u2,u3,u4,u5⟩:=tri aY
      have kp:=Gv.lt
      have ii:=GR.lt
      have hltq:=aY.lt
      by_cases hte:te=0
      ·subst hte
       obtain⟨rfl,rfl⟩:=kT rfl
       obtain⟨t1,t2⟩:=Gy rfl
       have t2':j2+tn'≤s.size:=by rw[Qve]at t2;omega
       have hR:=hid (mK.out rfl)
       clear mJ mK Gy t2 kT
       obtain⟨i0,hi,GE,GF,GA⟩:=info_parts QSh
       go_wp2_with (at_builtin;refine wpList_append_own _ rfl _ _ 57 rfl (w.heap.size+2) 65 i0 _ 6 56 Tryz.underlying57 hi GE GF GA rfl (by decide) _ _ _ rfl ((gK.alloc _).alloc _) ⟨w2.heap.size+1,0,none⟩ 1 1 (QHb file { tk' with line:=l1,col:=c1 }) rfl rfl ?c1 ?c2 ?c3 ?c4 ?c5 ?_)
       case c1=>exact Q3a _ _ _ _ (by simp) _ rfl
       case c2=>exact Qki _ _
       case c3=>unfold maxLen;omega
       case c4=>omega
       case c5=>simp;omega
       intro v' w3 Hq Hb _
       have jU:∀g,(Value.slice ao toks.length cap).ownBlock=some g→w.heap.size+2≤g:=fun g hg=>(gJ.lt g hg).1
       have kC:Qca w3 w.heap.size #[.int .i64 0,.int .i64 0,.int .i64 0] 27:=((GR.alloc _).alloc _).grown Hb (fun e=>by have:=jU _ e;omega)
       have kN:Qca w3 (w.heap.size+1) (QIa s j2 l1 c1) 111:=((Gv.alloc _).alloc _).grown Hb (fun e=>by have:=jU _ e;omega)
       have gm:Below w.heap.size w w3:=((Ho.alloc tD _).alloc (by simp;omega) _).grown Hb (by simp;omega) (fun g hg=>by have:=jU g hg;omega)
       have kt:w3.ownsRow (w.heap.size+2) 65 6 v' (toks.length+1) (Qyb file (toks++[{ tk' with line:=l1,col:=c1 }])):=by rw[Qrc];exact Hq
       have ik:∀g,v'.ownBlock=some g→¬g=w.heap.size+1:=fun g hg=>by have:=(Hq.lt g hg).1;omega
       clear Hq Hb
       have jH:=kN.lt
       clear q0 q1 q2 q3 q4 q5 r0 r1 r2 r3 r4 r5 r6 r7 u0 u1 u2 u3 u4 u5
       go_wp2_with fail
       refine(eT.out tn' t2' _ kN).mono ?_
       rintro e w4 ⟨rfl,mt,gD⟩
       have jO:=kC.keeps gD (by omega)
       have mQ:Below w.heap.size w w4:=gm.trans (gD.below gm.size (by intro i hi;omega))
       have Gi:=Qba kt gD ik
       go_wp2_with fail
       go_roundg f
       case measure=>omega
       case rel=>
        have Hm:=Qdh ((s.data.toList.drop j2).take tn') (l1,c1) k1 k2
        have Kl:((s.data.toList.drop j2).take tn').length≤tn':=by simp;omega
        have mu:=hR.out.symm
        rw[List.drop_drop]at mu
        exact⟨j2+tn',_,_,toks++[{ tk' with line:=l1,col:=c1 }],t2',by omega,Hm.1,by simp at Hm;omega,Hm.2.1,by simp at Hm;omega,mu,by simp;omega,by simpa using Gi,mt,jO,mQ⟩
      ·have hR:=hid (mJ.out hte)
       have tJ:(te != 0)=true:=by simpa using hte
       clear mJ mK Gy hte kT
       go_wp2_with fail
       go_region
       go_wp2_with fail
       exact bodyPost_ret (v:=.tuple #[.slice none 0 0,.agg #[.int .i64 file,.int .i64 l1,.int .i64 c1],.int .i64 te]) (by simp[results,Tryz.results33,go_sem,q0,q1,q2,ii]) rfl ⟨_,by rw[hR.out];rfl,by rw[hR.out];exact World.ownsRow_nil _ _ _ _,by repeat (first|with_reducible exact Below.refl _ _|with_reducible assumption|with_reducible refine Below.setCell ?_ (by first|omega|simp) _|with_reducible refine Below.alloc ?_ (by first|omega | (simp;omega) | simp) _|with_reducible refine below_drewN ?_ _|with_reducible refine Below.drew ?_)⟩
end Go.Proofs.YtofhcgbihonckaaGreat
