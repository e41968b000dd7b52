/- Contracts of the reference of token: skip. | Contracts of the reference of token: next. | Contracts of the reference of token: next, references and words. | Contracts of the reference of token: next, signs. | The contract of Read of the reference of token. -/
import Derived.Test.YtofhcgbihonckaaGreatY14
import Derived.Test.YtofhcgbihonckaaGreatY7
import Derived.Deep.RegionHeld3
import Derived.IntWalk
set_option linter.all false
set_option maxHeartbeats 8000000
namespace Go.Proofs.YtofhcgbihonckaaGreat
open Go.Lib (hid)
open Go.RowKit
def Qpf(s:ByteArray)(i:Nat)(line col:Int)(b:Nat)(w:World)(e:Ending)(w':World):Prop:=
 e = .returned (.int .i64 (if (blk (s.size-i) (s.data.toList.drop i)).2=true then 21 else 0))∧
 Qca w' b (QHa s (i+(blk (s.size-i) (s.data.toList.drop i)).1) (adv ((s.data.toList.drop i).take (blk (s.size-i) (s.data.toList.drop i)).1) (line,col)).1 (adv ((s.data.toList.drop i).take (blk (s.size-i) (s.data.toList.drop i)).1) (line,col)).2) 111∧Qaa (· = b) w w'
def At(s:ByteArray)(i:Nat)(line col:Int)(j:Nat)(l c:Int):Prop:=
 i≤j∧j≤s.size∧1≤l∧l≤j+1∧1≤c∧c≤j+1∧(l,c)=adv ((s.data.toList.drop i).take (j-i)) (line,col)
theorem At.go{s:ByteArray}{i:Nat}{line col:Int}{j:Nat}{l c:Int}(h:At s i line col j l c)(n:Nat)(hn:j+n≤s.size) :
 At s i line col (j+n) (adv ((s.data.toList.drop j).take n) (l,c)).1 (adv ((s.data.toList.drop j).take n) (l,c)).2:=by
 obtain⟨GH,hj,Ks,KQ,mw,Kc,hA⟩:=h
 have Hm:=Qzg ((s.data.toList.drop j).take n) (l,c) Ks mw
 have kV:((s.data.toList.drop j).take n).length≤n:=by simp;omega
 exact⟨by omega,hn,Hm.1,by simp at Hm;omega,Hm.2.1,by simp at Hm;omega,by rw[hA,QDj _ i j n GH]⟩
def Quq(s:ByteArray)(i:Nat)(line col:Int)(b:Nat)(w:World)(B:Nat × Bool)(f:Nat)(wr:World):Prop:=
 ∃j:Nat,∃l c:Int,At s i line col j l c∧s.size≤j+f∧B=((blk f (s.data.toList.drop j)).1+(j-i),(blk f (s.data.toList.drop j)).2)∧
  Qca wr b (QHa s j l c) 111∧Qaa (· = b) w wr
def Qvq(s:ByteArray)(i:Nat)(line col:Int)(b:Nat)(w:World)(j:Nat)(f:Nat)(wr:World):Prop:=
 ∃j':Nat,∃l c:Int,At s i line col j' l c∧j≤j'∧s.size≤j'+f∧QSa Qrb (s.data.toList.drop j)=QSa Qrb (s.data.toList.drop j')+(j'-j)∧
  Qca wr b (QHa s j' l c) 111∧Qaa (· = b) w wr
def Qwq(s:ByteArray)(b:Nat)(w:World)(j:Nat)(l c:Int)(f:Nat)(x:Value)(wr:World):Prop:=
 ∃n:Nat,2≤n∧j+n≤s.size∧s.size≤j+n+f∧x = .int .i64 n∧(∀m,m<n-2→Lib.occAt (s.data.toList.drop (j+2)) [42,47] m=false)∧
  Qca wr b (QHa s j l c) 111∧Qaa (· = b) w wr
theorem QHh{s:ByteArray}{i:Nat}{line col:Int}{b:Nat}{w w2:World}{B:Nat × Bool}{j:Nat}{l c:Int}{x:Bool}{e:Ending}(hA:At s i line col j l c)(hB:B=(j-i,x))(HB:blk (s.size-i) (s.data.toList.drop i)=B)
 (hH:Qca w2 b (QHa s j l c) 111) (hK:Qaa (· = b) w w2) (he:e = .returned (.int .i64 (if x=true then 21 else 0))):Qpf s i line col b w e w2:=by
 obtain⟨GH,hj,Ks,KQ,mw,Kc,hA⟩:=hA
 unfold Qpf
 rw[HB,hB]
 refine⟨he,?_,hK⟩
 simp only
 rw[←hA,show i+(j-i)=j from by omega]
 exact hH
theorem QVn(s:ByteArray)(j n:Nat)(h:2≤n):Lib.occAt (s.data.toList.drop (j+2)) [42,47] (n-2)=Lib.hasPrefix (s.data.toList.drop (j+n)) [42,47]:=by
 unfold Lib.occAt Lib.hasPrefix
 rw[List.drop_drop,show j+2+(n-2)=j+n from by omega]
theorem Q2m{s:ByteArray}{j n:Nat}(h2:2≤n)(h:∀m,m<n-2→Lib.occAt (s.data.toList.drop (j+2)) [42,47] m=false)(hn:Lib.hasPrefix (s.data.toList.drop (j+n)) [42,47]=false) :
 ∀m,m<n+1-2→Lib.occAt (s.data.toList.drop (j+2)) [42,47] m=false:=by
 intro m hm
 by_cases nP:m=n-2
 ·subst nP;rw[QVn s j n h2];exact hn
 ·exact h m (by omega)
theorem Q3m{s:ByteArray}{j n:Nat}(h2:2≤n)(hn:s.size≤j+n)(h:∀m,m<n-2→Lib.occAt (s.data.toList.drop (j+2)) [42,47] m=false):Lib.index (s.data.toList.drop (j+2)) [42,47] = -1:=by
 apply Lib.index_none
 intro m _
 by_cases nP:m<n-2
 ·exact h m nP
 ·unfold Lib.occAt
  rw[Bool.eq_false_iff]
  intro hp
  have:=(List.isPrefixOf_iff_prefix.1 hp).length_le
  simp at this;omega
theorem Q2l{s:ByteArray}{j:Nat}{l c:Int}{b:Nat}{w wx w':World}{t:TypeId}(hk:Qaa (fun _=>False) wx w')(hH:Qca wx b (QHa s j l c) t)(hK:Qaa (· = b) w wx) :
 w'.cell? ⟨b,0,none⟩=some (.string s)∧w'.cell? ⟨b,1,none⟩=some (.int .i64 j)∧Qca w' b (QHa s j l c) t∧Qaa (· = b) w w':=
 have h:=hH.keeps hk (fun x=>x)
 ⟨h.cell 0,h.cell 1,h,hK.trans hk (fun _ _ x=>x.elim)⟩
set_option maxRecDepth 100000 in
theorem Qvn(s:ByteArray)(i:Nat)(line col:Int)(b:Nat)(w:World)(h:Qca w b (QHa s i line col) 111)(hi:i≤s.size)(hs:s.size≤16000)
 (hl:1≤line) (hl':line≤i+1) (hc:1≤col) (hc':col≤i+1) :
 Calls Tryz.prog 60 #[.pointer (some ⟨b,0,none⟩)] w (Qpf s i line col b w):=by
 generalize hB:blk (s.size-i) (s.data.toList.drop i)=B
 have HB:=hid hB;clear hB
 go_enter Tryz.func60,Tryz.ntmps60
 go_wp2_with fail
 go_loopg [] (s.size-i) (fun f wr=>Quq s i line col b w B f wr)
 case atStart=>exact⟨i,line,col,⟨by omega,hi,hl,hl',hc,hc',by simp[adv]⟩,by omega,by rw[HB.out];simp,h,Qaa.refl _ _⟩
 case round=>
  obtain⟨j,l,c,dI,hf,hE,hH,hK⟩:=hrel
  have pp:=dI
  obtain⟨GH,hj,Ks,KQ,mw,Kc,hA⟩:=pp
  clear hA
  have HE:=hid hE;clear hE
  obtain⟨c0,c1,c2,c3,f0,f1,f2,f3⟩:=Qod hH
  have mi:=fun t wx hh ht=>QUd s t j l c b wx hh hj (by omega) ht
  have mJ:=fun n wx hh hn=>QBh s j n l c b wx hh hn (by omega) Ks KQ mw Kc
  by_cases Hj:j<s.size
  ·obtain⟨f,rfl⟩:∃f',gk=f'+1:=⟨gk-1,by omega⟩
   have hD:=hid (Qxa s j Hj)
   have kb:∀wx,Calls Tryz.prog 96 #[.int .u8 s[j].toNat,.string ⟨#[32,9,13,10]⟩] wx fun e w'=>e = .returned (.bool (QIi s[j].toNat))∧w'=wx:=fun wx=>(Q9f s[j].toNat ⟨#[32,9,13,10]⟩ wx (by simp[maxLen,ByteArray.size])).mono fun _ _ ⟨p,q⟩=>⟨p,q.symm⟩
   cases kH:QIi s[j].toNat
   ·have dC:=fun wx hh=>mi ⟨#[47,47]⟩ wx hh (by simp[ByteArray.size])
    have iy:=fun wx hh=>mi ⟨#[47,42]⟩ wx hh (by simp[ByteArray.size])
    change ∀wx hh,Calls _ _ _ _ fun e w'=>e = .returned (.bool (Lib.hasPrefix (s.data.toList.drop j) [47,47]))∧_ at dC
    change ∀wx hh,Calls _ _ _ _ fun e w'=>e = .returned (.bool (Lib.hasPrefix (s.data.toList.drop j) [47,42]))∧_ at iy
    have HS:=hid kH
    rw[kH]at kb
    clear kH mi
    cases hp:Lib.hasPrefix (s.data.toList.drop j) [47,47]
    ·rw[hp]at dC
     have HP:=hid hp;clear hp
     cases hq:Lib.hasPrefix (s.data.toList.drop j) [47,42]
     ·rw[hq]at iy
      have kp:=hid (show B=(j-i,false)from by rw[HE.out,hD.out,QGj HS.out (by rw[←hD.out];exact HP.out) (by rw[←hD.out];exact hq)];simp)
      clear hq
      go_wp2_with fail
      go_quiet (fail)
      go_wp2_with fail
      go_quiet ((go_at_call 96;exact(kb _).mono fun _ _ ⟨p,q⟩=>⟨p,_,q⟩))
      go_wp2_with fail
      refine(dC _ (by exact hH)).mono ?_
      rintro e w1 ⟨rfl,n1,rfl⟩
      go_wp2_with fail
      refine(iy _ (by exact hH)).mono ?_
      rintro e w1 ⟨rfl,n2,rfl⟩
      go_wp2_with fail
      go_ret
      exact QHh dI kp.out HB.out hH (hK.drewN _) rfl
     ·rw[hq]at iy
      have Gf:j+2≤s.size:=by have:=Lib.hasPrefix_le hq;simp at this;omega
      have HQ:=hid hq;clear hq
      go_wp2_with fail
      go_quiet (fail)
      go_wp2_with fail
      go_quiet ((go_at_call 96;exact(kb _).mono fun _ _ ⟨p,q⟩=>⟨p,_,q⟩))
      go_wp2_with fail
      refine(dC _ (by exact hH)).mono ?_
      rintro e w1 ⟨rfl,n1,rfl⟩
      go_wp2_with fail
      refine(iy _ (by exact hH)).mono ?_
      rintro e w1 ⟨rfl,n2,rfl⟩
      go_wp2_with fail
      go_loopg [3] (s.size) (fun f x wr=>Qwq s b w j l c f x wr)
      case atStart=>exact⟨2,by omega,Gf,by omega,rfl,by intro m hm;omega,hH,hK.drewN _⟩
      case round=>
       obtain⟨n,Ju,aj,lm,rfl,MO,nx,MK⟩:=hrel
       have JI:=hid MO;clear MO
       obtain⟨d0,d1,d2,d3,g0,g1,g2,g3⟩:=Qod nx
       by_cases hltn:j+n<s.size
       ·have Me:=fun wx=>Qtn s (j+n) 0 0 wx (by omega) (by omega)
        unfold QHa at Me
        rw[show((j+n:Nat):Int)=(j:Int)+n from by omega]at Me
        have hd:decide ((j:Int)+n<s.size)=true:=by simp;omega
        have nS:=hid (show IntKind.i64.wrap ((j:Int)+n)=(j:Int)+n from IntWalk.i64_in _ (by omega))
        have bY:=nS.out
        cases he:Lib.hasPrefix (s.data.toList.drop (j+n)) [42,47]
        ·rw[he]at Me
         have eX:=hid he;clear he
         go_wp2_with fail
         go_region_held3 (fun wx=>wx.cell? ⟨b,0,none⟩=some (.string s)∧wx.cell? ⟨b,1,none⟩=some (.int .i64 j)∧Qca wx b (QHa s j l c) 111∧Qaa (· = b) w wx)
          (first
          | exact⟨d0,d1,nx,MK.drew⟩
          | (go_split_ands;exact Q2l (by assumption) (by assumption) (by assumption))
          | go_keep)
          (first
          | (go_at_call 98;refine(Me _).mono ?_;rintro e w' ⟨rfl,hk⟩))
         rename_i fw
         obtain⟨_,_,ky,gd⟩:=fw
         clear bY
         go_wp2_with fail
         go_roundg (gk-1)
         case measure=>omega
         case rel=>exact⟨n+1,by omega,by omega,by omega,by go_num,Q2m Ju JI.out eX.out,ky,gd⟩
        ·rw[he]at Me
         have lw:j+(n+2)≤s.size:=by have:=Lib.hasPrefix_le he;simp at this;omega
         have kp:=hid (show B=((blk f (s.data.toList.drop (j+(n+2)))).1+(n+2)+(j-i),(blk f (s.data.toList.drop (j+(n+2)))).2)from by
          rw[HE.out,show n+2=(n-2)+4 from by omega,←List.drop_drop,hD.out,QHj HS.out (by rw[←hD.out];exact HP.out) (by rw[←hD.out];exact HQ.out) (n-2) (by rw[←hD.out,List.drop_drop];exact Lib.index_first (by simp;omega) (by rw[QVn s j n Ju];exact he) JI.out)])
         have eX:=hid he;clear he
         go_wp2_with fail
         go_region_held3 (fun wx=>wx.cell? ⟨b,0,none⟩=some (.string s)∧wx.cell? ⟨b,1,none⟩=some (.int .i64 j)∧Qca wx b (QHa s j l c) 111∧Qaa (· = b) w wx)
          (first
          | exact⟨d0,d1,nx,MK.drew⟩
          | (go_split_ands;exact Q2l (by assumption) (by assumption) (by assumption))
          | go_keep)
          (first
          | (go_at_call 98;refine(Me _).mono ?_;rintro e w' ⟨rfl,hk⟩))
         rename_i fw
         obtain⟨_,_,ky,gd⟩:=fw
         have MM:decide ((s.size:Int)≤(j:Int)+n)=false:=by simp;omega
         go_wp2_with fail
         go_quiet (fail)
         clear bY
         go_wp2_with fail
         refine(mJ (n+2) _ (by exact ky) lw).mono ?_
         rintro e w1 ⟨rfl,G1,gZ⟩
         go_wp2_with fail
         go_roundg f
         case measure=>omega
         case rel=>exact⟨j+(n+2),_,_,dI.go (n+2) lw,by omega,by rw[kp.out];congr 1;omega,G1,(gd.drewN _).trans gZ (fun _ _ h=>h)⟩
       ·have hd:decide ((j:Int)+n<s.size)=false:=by simp;omega
        have MM:decide ((s.size:Int)≤(j:Int)+n)=true:=by simp;omega
        have nS:=hid (show IntKind.i64.wrap ((j:Int)+n)=(j:Int)+n from IntWalk.i64_in _ (by omega))
        have kp:=hid (show B=(j-i,true)from by
         rw[HE.out,hD.out,Q3k HS.out (by rw[←hD.out];exact HP.out) (by rw[←hD.out];exact HQ.out) (by rw[←hD.out,List.drop_drop,Q3m Ju (by omega) JI.out];omega)];simp)
        have bY:=nS.out
        go_wp2_with fail
        go_quiet (fail)
        go_wp2_with fail
        go_quiet (fail)
        clear bY
        go_wp2_with fail
        go_ret
        exact QHh dI kp.out HB.out nx ((MK.drewN _).drewN _) rfl
    ·have M3:1≤QSa Qrb (s.data.toList.drop j):=by
      have h1':=hp
      rw[hD.out]at h1'
      have e0:s[j]=47:=by simp[Lib.hasPrefix]at h1';exact h1'.1.symm
      rw[hD.out,QEb,if_pos (by rw[e0];decide)];omega
     have kp:=hid (show B=((blk f (s.data.toList.drop (j+QSa Qrb (s.data.toList.drop j)))).1+QSa Qrb (s.data.toList.drop j)+(j-i),(blk f (s.data.toList.drop (j+QSa Qrb (s.data.toList.drop j)))).2)from by
      have h1':=hp
      rw[hD.out]at h1'
      rw[HE.out,←List.drop_drop,hD.out,QFj HS.out h1'])
     rw[hp]at dC
     clear hp
     generalize hM:QSa Qrb (s.data.toList.drop j)=M at M3 kp
     have HM:=hid hM;clear hM
     go_wp2_with fail
     go_quiet (fail)
     go_wp2_with fail
     go_quiet ((go_at_call 96;exact(kb _).mono fun _ _ ⟨p,q⟩=>⟨p,_,q⟩))
     go_wp2_with fail
     refine(dC _ (by exact hH)).mono ?_
     rintro e w1 ⟨rfl,n1,rfl⟩
     go_wp2_with fail
     go_loopg [] (s.size) (fun f wr=>Qvq s i line col b w j f wr)
     case atStart=>exact⟨j,l,c,dI,by omega,by omega,by omega,hH,hK.drewN _⟩
     case round=>
      obtain⟨j',l',c',bu,sn,ab,hR,GX,ga⟩:=hrel
      have iB:=bu
      obtain⟨ij2,Gf,l1,l2,k1,k2,Gc⟩:=iB
      clear Gc
      have HR:=hid hR;clear hR
      obtain⟨d0,d1,d2,d3,g0,g1,g2,g3⟩:=Qod GX
      have eL:=fun wx hh hn=>QBh s j' 1 l' c' b wx hh hn (by omega) l1 l2 k1 k2
      by_cases ki:j'<s.size
      ·have hd:decide ((j':Int)<s.size)=true:=by simp;omega
       have bv:=hid (Qxa s j' ki)
       by_cases gY:s[j'].toNat=10
       ·have kO:((s[j'].toNat:Int) != 10)=false:=by simp[gY]
        have GF:=hid (show M=j'-j from by rw[←HM.out,HR.out,bv.out,QEb,if_neg (by simp[Qrb,gY])];omega)
        clear gY
        go_wp2_with fail
        go_quiet (fail)
        go_wp2_with fail
        go_roundg f
        case measure=>omega
        case rel=>exact⟨j',l',c',bu,by have:=GF.out;omega,by have:=GF.out;rw[kp.out,this,show j+(j'-j)=j' from by omega];congr 1;omega,GX,ga.drewN _⟩
       ·have kO:((s[j'].toNat:Int) != 10)=true:=by simp;omega
        have KZ:=hid (show QSa Qrb (s.data.toList.drop j)=QSa Qrb (s.data.toList.drop (j'+1))+(j'+1-j)from by rw[HR.out,bv.out,QEb,if_pos (by simp[Qrb];omega)];omega)
        clear gY
        go_wp2_with fail
        go_quiet (fail)
        go_wp2_with fail
        refine(eL _ (by exact GX) (by omega)).mono ?_
        rintro e w1 ⟨rfl,ky,gd⟩
        go_wp2_with fail
        go_roundg (gk-1)
        case measure=>omega
        case rel=>exact⟨j'+1,_,_,bu.go 1 (by omega),by omega,by omega,KZ.out,ky,(ga.drewN _).trans gd (fun _ _ h=>h)⟩
      ·have hd:decide ((j':Int)<s.size)=false:=by simp;omega
       have GF:=hid (show M=j'-j from by rw[←HM.out,HR.out,Q9a s j' (by omega)];simp[QSa])
       go_wp2_with fail
       go_quiet (fail)
       go_wp2_with fail
       go_roundg f
       case measure=>omega
       case rel=>exact⟨j',l',c',bu,by have:=GF.out;omega,by have:=GF.out;rw[kp.out,this,show j+(j'-j)=j' from by omega];congr 1;omega,GX,ga.drewN _⟩
   ·have kp:=hid (show B=((blk f (s.data.toList.drop (j+1))).1+1+(j-i),(blk f (s.data.toList.drop (j+1))).2)from by rw[HE.out,hD.out,Q4k kH])
    rw[kH]at kb
    clear kH mi
    go_wp2_with fail
    go_quiet (fail)
    go_wp2_with fail
    go_quiet ((go_at_call 96;exact(kb _).mono fun _ _ ⟨p,q⟩=>⟨p,_,q⟩))
    go_wp2_with fail
    refine(mJ 1 _ (by exact hH) (by omega)).mono ?_
    rintro e w1 ⟨rfl,G1,gZ⟩
    go_wp2_with fail
    go_roundg f
    case measure=>omega
    case rel=>exact⟨j+1,_,_,dI.go 1 (by omega),by omega,by rw[kp.out];congr 1;omega,G1,(hK.drewN _).trans gZ (fun _ _ h=>h)⟩
  ·have kp:=hid (show B=(j-i,false)from by rw[HE.out,Q9a s j (by omega)];cases gk <;> simp[blk])
   go_wp2_with fail
   go_quiet (fail)
   go_wp2_with fail
   go_ret
   exact QHh dI kp.out HB.out hH (hK.drewN _) rfl
theorem QHc(s:ByteArray)(a n:Nat):s.extract a (a+n)=⟨((s.data.toList.drop a).take n).toArray⟩:=by
 rw[Quc,List.drop_take,show a+n-a=n from by omega]
theorem QYi(s:ByteArray)(a:Nat)(h:a<s.size):(s.data.toList.drop a).headD 0=s[a]:=by rw[Qxa s a h];rfl
theorem QWf(s:ByteArray)(a n:Nat)(h:a+n<s.size):(s.data.toList.drop a).getD n 0=s[a+n]:=by
 rw[←Qfl s (a+n) h,List.getD_eq_getElem?_getD,List.getD_eq_getElem?_getD,List.getElem?_drop]
def Qgc(s:ByteArray)(a:Nat)(w:World)(e:Ending)(w':World):Prop:=
 ∃(t:Tok) (n:Nat),e = .returned (.tuple #[Qbb 0 t,.int .i64 n,.int .i64 (Qya (s.data.toList.drop a)).2.2])∧
  ((Qya (s.data.toList.drop a)).2.2=0→t=(Qya (s.data.toList.drop a)).1∧n=(Qya (s.data.toList.drop a)).2.1)∧Below w.heap.size w w'
theorem Qgc.of{s:ByteArray}{a:Nat}{w w':World}{e:Ending}{t:Tok}{n:Nat}{er:Int}(h:Qya (s.data.toList.drop a)=(t,n,er))(he:e = .returned (.tuple #[Qbb 0 t,.int .i64 n,.int .i64 er]))(hb:Below w.heap.size w w'):Qgc s a w e w':=
 ⟨t,n,by rw[h];exact he,by rw[h];exact fun _=>⟨rfl,rfl⟩,hb⟩
theorem Qgc.bad{s:ByteArray}{a:Nat}{w w':World}{e:Ending}{t t':Tok}{n n':Nat}{er:Int}(h:Qya (s.data.toList.drop a)=(t,n,er))(h0:er≠0)(he:e = .returned (.tuple #[Qbb 0 t',.int .i64 n',.int .i64 er]))(hb:Below w.heap.size w w'):Qgc s a w e w':=
 ⟨t',n',by rw[h];exact he,by rw[h];exact fun x=>absurd x h0,hb⟩
theorem Qcg(s:ByteArray)(a:Nat):(s.data.toList.drop a).length=s.size-a:=by simp
set_option maxRecDepth 100000 in
theorem QBk(s:ByteArray)(a:Nat)(line col:Int)(w:World)(hs:s.size≤16000)(h1:a<s.size)(hc:Qja s[a].toNat=true∨(s[a].toNat:Int)=95∨(s[a].toNat:Int)=35) :
 Calls Tryz.prog 61 #[.agg (QHa s a line col)] w (Qgc s a w):=by
 unfold QHa
 have hH:=QYi s a h1
 have hF:=hid (show Qya (s.data.toList.drop a)=if QSa Q2a (s.data.toList.drop a)=(s.data.toList.drop a).length∨((s.data.toList.drop a).getD (QSa Q2a (s.data.toList.drop a)) 0).toNat≠58 then(⟨1,(s.data.toList.drop a).take (QSa Q2a (s.data.toList.drop a)),0,0,0⟩,QSa Q2a (s.data.toList.drop a),0)
  else if Qaf QIa ((s.data.toList.drop a).take (QSa Q2a (s.data.toList.drop a)))=true then(⟨5,(s.data.toList.drop a).take (QSa Q2a (s.data.toList.drop a)),0,0,0⟩,QSa Q2a (s.data.toList.drop a)+1,0)else(⟨0,[],0,0,0⟩,0,6)from by unfold Qya;simp only[hH];rw[if_pos hc])
 have gH:∀wx,Calls Tryz.prog 100 #[.string s,.int .i64 a,.bool true] wx fun e w'=>e = .returned (.int .i64 (QSa Q2a (s.data.toList.drop a)))∧wx=w':=fun wx=>Qlj s a true wx (by omega) (by omega)
 have hn:=Qnc Q2a (s.data.toList.drop a)
 have Hg:=fun wx=>Qti (s.extract a (a+QSa Q2a (s.data.toList.drop a))) wx (by unfold maxLen;simp;omega)
 rw[QHc]at Hg
 simp only at Hg
 generalize QSa Q2a (s.data.toList.drop a)=n at hF gH hn Hg
 rw[←QHc]at Hg
 have HR:=hid gH;clear gH
 have HA:=hid Hg;clear Hg
 have hn':a+n≤s.size:=by simp at hn;omega
 clear hn hH
 have gO:Qja s[a].toNat=true∨Qja s[a].toNat=false∧((s[a].toNat:Int) == 95)=true∨Qja s[a].toNat=false∧((s[a].toNat:Int) == 95)=false∧((s[a].toNat:Int) == 35)=true:=by
  by_cases x:Qja s[a].toNat=true
  ·exact .inl x
  ·have x':Qja s[a].toNat=false:=by simpa using x
   by_cases b:(s[a].toNat:Int)=95
   ·exact .inr (.inl ⟨x',by simpa using b⟩)
   ·have c:(s[a].toNat:Int)=35:=by rcases hc with h|h|h;exact absurd h x;exact absurd h b;exact h
    exact .inr (.inr ⟨x',by simpa using b,by simpa using c⟩)
 clear hc
 by_cases Hj:a+n<s.size
 ·have hg:=QWf s a n Hj
  by_cases jv:s[a+n].toNat=58
  ·have dF:((s[a+n].toNat:Int) == 58)=true:=by simp[jv]
   cases hw:Qaf QIa ((s.data.toList.drop a).take n)
   ·have hR:=hid (show Qya (s.data.toList.drop a)=(⟨0,[],0,0,0⟩,0,6)from by rw[hF.out,if_neg,if_neg (by simp[hw])];rintro (h|h);rw[Qcg]at h;omega;rw[hg]at h;exact h jv)
    clear jv hg
    rcases gO with h|⟨h,h'⟩|⟨h,h',h''⟩
    all_goals
     go_enter Tryz.func61,Tryz.ntmps61
     go_wp2_with fail
     go_quiet (fail)
     go_wp2_with (first | (go_at_call 99;refine(Qcb _ _).mono ?_;rintro e w' ⟨rfl,rfl⟩) | (go_at_call 100;refine(HR.out _).mono ?_;rintro e w' ⟨rfl,rfl⟩) | (go_at_call 101;refine(HA.out _).mono ?_;rintro e w' ⟨rfl,rfl⟩))
     exact bodyPost_ret (v:=.tuple #[.agg #[.int .i64 5,.string (s.extract a (a+n)),.int .i64 0,.int .i64 0,.int .i64 0,.int .i64 0],.int .i64 0,.int .i64 6]) (by simp[results,Tryz.results61,go_sem]) rfl (Qgc.bad (t':=⟨5,_,0,0,0⟩) (n':=0) hR.out (by decide) (by rw[QHc];rfl) (by repeat (first|with_reducible exact Below.refl _ _|with_reducible assumption|with_reducible refine Below.setCell ?_ (by simp) _|with_reducible refine Below.alloc ?_ (by simp;try omega) _|with_reducible refine below_drewN ?_ _|with_reducible refine Below.drew ?_)))
   ·have hR:=hid (show Qya (s.data.toList.drop a)=(⟨5,(s.data.toList.drop a).take n,0,0,0⟩,n+1,0)from by rw[hF.out,if_neg,if_pos hw];rintro (h|h);rw[Qcg]at h;omega;rw[hg]at h;exact h jv)
    clear jv hg
    rcases gO with h|⟨h,h'⟩|⟨h,h',h''⟩
    all_goals
     go_enter Tryz.func61,Tryz.ntmps61
     go_wp2_with fail
     go_quiet (fail)
     go_wp2_with (first | (go_at_call 99;refine(Qcb _ _).mono ?_;rintro e w' ⟨rfl,rfl⟩) | (go_at_call 100;refine(HR.out _).mono ?_;rintro e w' ⟨rfl,rfl⟩) | (go_at_call 101;refine(HA.out _).mono ?_;rintro e w' ⟨rfl,rfl⟩))
     exact bodyPost_ret (v:=.tuple #[.agg #[.int .i64 5,.string (s.extract a (a+n)),.int .i64 0,.int .i64 0,.int .i64 0,.int .i64 0],.int .i64 (n+1),.int .i64 0]) (by simp[results,Tryz.results61,go_sem]) rfl (Qgc.of hR.out (by rw[QHc];rfl) (by repeat (first|with_reducible exact Below.refl _ _|with_reducible assumption|with_reducible refine Below.setCell ?_ (by simp) _|with_reducible refine Below.alloc ?_ (by simp;try omega) _|with_reducible refine below_drewN ?_ _|with_reducible refine Below.drew ?_)))
  ·have dF:((s[a+n].toNat:Int) == 58)=false:=by simp;omega
   have hR:=hid (show Qya (s.data.toList.drop a)=(⟨1,(s.data.toList.drop a).take n,0,0,0⟩,n,0)from by rw[hF.out,if_pos];right;rw[hg];exact jv)
   clear jv hg
   rcases gO with h|⟨h,h'⟩|⟨h,h',h''⟩
   all_goals
    go_enter Tryz.func61,Tryz.ntmps61
    go_wp2_with fail
    go_quiet (fail)
    go_wp2_with (first | (go_at_call 99;refine(Qcb _ _).mono ?_;rintro e w' ⟨rfl,rfl⟩) | (go_at_call 100;refine(HR.out _).mono ?_;rintro e w' ⟨rfl,rfl⟩) | (go_at_call 101;refine(HA.out _).mono ?_;rintro e w' ⟨rfl,rfl⟩))
    exact bodyPost_ret (v:=.tuple #[.agg #[.int .i64 1,.string (s.extract a (a+n)),.int .i64 0,.int .i64 0,.int .i64 0,.int .i64 0],.int .i64 n,.int .i64 0]) (by simp[results,Tryz.results61,go_sem]) rfl (Qgc.of hR.out (by rw[QHc];rfl) (by repeat (first|with_reducible exact Below.refl _ _|with_reducible assumption|with_reducible refine Below.setCell ?_ (by simp) _|with_reducible refine Below.alloc ?_ (by simp;try omega) _|with_reducible refine below_drewN ?_ _|with_reducible refine Below.drew ?_)))
 ·have hR:=hid (show Qya (s.data.toList.drop a)=(⟨1,(s.data.toList.drop a).take n,0,0,0⟩,n,0)from by rw[hF.out,if_pos];left;rw[Qcg];omega)
  rcases gO with h|⟨h,h'⟩|⟨h,h',h''⟩
  all_goals
   go_enter Tryz.func61,Tryz.ntmps61
   go_wp2_with fail
   go_quiet (fail)
   go_wp2_with (first | (go_at_call 99;refine(Qcb _ _).mono ?_;rintro e w' ⟨rfl,rfl⟩) | (go_at_call 100;refine(HR.out _).mono ?_;rintro e w' ⟨rfl,rfl⟩) | (go_at_call 101;refine(HA.out _).mono ?_;rintro e w' ⟨rfl,rfl⟩))
   exact bodyPost_ret (v:=.tuple #[.agg #[.int .i64 1,.string (s.extract a (a+n)),.int .i64 0,.int .i64 0,.int .i64 0,.int .i64 0],.int .i64 n,.int .i64 0]) (by simp[results,Tryz.results61,go_sem]) rfl (Qgc.of hR.out (by rw[QHc];rfl) (by repeat (first|with_reducible exact Below.refl _ _|with_reducible assumption|with_reducible refine Below.setCell ?_ (by simp) _|with_reducible refine Below.alloc ?_ (by simp;try omega) _|with_reducible refine below_drewN ?_ _|with_reducible refine Below.drew ?_)))
theorem Qqi(c:Int)(hc:¬(Qja c=true∨c=95∨c=35)):Qja c=false∧(c == 95)=false∧(c == 35)=false:=QEg c hc
set_option maxRecDepth 100000 in
theorem Qnj(s:ByteArray)(a:Nat)(line col:Int)(w:World)(hs:s.size≤16000)(h1:a<s.size)(hc:¬(Qja s[a].toNat=true∨(s[a].toNat:Int)=95∨(s[a].toNat:Int)=35))(hd:QOa s[a].toNat=true) :
 Calls Tryz.prog 61 #[.agg (QHa s a line col)] w (Qgc s a w):=by
 unfold QHa
 have hH:=QYi s a h1
 have hF:=hid (show Qya (s.data.toList.drop a)=(⟨2,[],(Q5d ((s.data.toList.drop a).take (QSa QIa (s.data.toList.drop a)))).1,0,0⟩,QSa QIa (s.data.toList.drop a),(Q5d ((s.data.toList.drop a).take (QSa QIa (s.data.toList.drop a)))).2)from by unfold Qya;simp only[hH];rw[if_neg hc,if_pos hd])
 have gH:∀wx,Calls Tryz.prog 100 #[.string s,.int .i64 a,.bool false] wx fun e w'=>e = .returned (.int .i64 (QSa QIa (s.data.toList.drop a)))∧wx=w':=fun wx=>Qlj s a false wx (by omega) (by omega)
 have hn:=Qnc QIa (s.data.toList.drop a)
 have gV:=fun wx=>QAk (s.extract a (a+QSa QIa (s.data.toList.drop a))) wx (by unfold maxLen;simp;omega)
 rw[QHc]at gV
 simp only at gV
 generalize QSa QIa (s.data.toList.drop a)=n at hF gH hn gV
 rw[←QHc]at gV
 generalize Q5d ((s.data.toList.drop a).take n)=N at hF gV
 have HR:=hid gH;clear gH
 have HA:=hid gV;clear gV
 have hn':a+n≤s.size:=by simp at hn;omega
 clear hn hH
 obtain⟨h,h',h''⟩:=Qqi _ hc
 have jB:48≤(s[a].toNat:Int):=by unfold QOa at hd;simp at hd;omega
 have cr:(s[a].toNat:Int)≤57:=by unfold QOa at hd;simp at hd;omega
 clear hc hd
 go_enter Tryz.func61,Tryz.ntmps61
 go_wp2_with fail
 go_quiet (fail)
 go_wp2_with (first | (go_at_call 99;refine(Qcb _ _).mono ?_;rintro e w' ⟨rfl,rfl⟩) | (go_at_call 100;refine(HR.out _).mono ?_;rintro e w' ⟨rfl,rfl⟩) | (go_at_call 102;refine(HA.out _).mono ?_;rintro e w' ⟨rfl,nd,rfl⟩))
 exact bodyPost_ret (v:=.tuple #[.agg #[.int .i64 2,.string ⟨#[]⟩,.int .i64 N.1,.int .i64 0,.int .i64 0,.int .i64 0],.int .i64 n,.int .i64 N.2]) (by simp[results,Tryz.results61,go_sem]) rfl (Qgc.of hF.out rfl (by repeat (first|with_reducible exact Below.refl _ _|with_reducible assumption|with_reducible refine Below.setCell ?_ (by simp) _|with_reducible refine Below.alloc ?_ (by simp;try omega) _|with_reducible refine below_drewN ?_ _|with_reducible refine Below.drew ?_)))
theorem Q1p(w:World)(o:Obj)(cs:Array Value)(t:TypeId):Qca ((w.alloc o).alloc (.cells cs t)) (w.heap.size+1) cs t:=by
 have h:=Qca.new (w.alloc o) cs t
 rwa [show(w.alloc o).heap.size=w.heap.size+1 from by simp]at h
set_option maxRecDepth 100000 in
theorem Qui(s:ByteArray)(a:Nat)(line col:Int)(w:World)(hs:s.size≤16000)(h1:a<s.size)(hc:¬(Qja s[a].toNat=true∨(s[a].toNat:Int)=95∨(s[a].toNat:Int)=35))(hd:QOa s[a].toNat=false)(hq:(s[a].toNat:Int)=34) :
 Calls Tryz.prog 61 #[.agg (QHa s a line col)] w (Qgc s a w):=by
 unfold QHa
 have hH:=QYi s a h1
 have hF:=hid (show Qya (s.data.toList.drop a)=(⟨3,(qtA (s.size-a) (s.data.toList.drop (a+1)) [] 1).1,0,0,0⟩,(qtA (s.size-a) (s.data.toList.drop (a+1)) [] 1).2.1,(qtA (s.size-a) (s.data.toList.drop (a+1)) [] 1).2.2)from by
  unfold Qya;simp only[hH];rw[if_neg hc,if_neg (by simp[hd]),if_pos hq,Qcg,List.drop_drop])
 have gV:=fun wx=>Qwn s a wx (by omega) h1
 unfold QAj at gV
 generalize qtA (s.size-a) (s.data.toList.drop (a+1)) [] 1=Q at hF gV
 have HA:=hid gV;clear gV
 have hq':((s[a].toNat:Int) == 34)=true:=by simpa using hq
 have jB:decide (48≤(s[a].toNat:Int))=false:=by simp;omega
 obtain⟨h,h',h''⟩:=Qqi _ hc
 clear hc hq hH hd
 go_enter Tryz.func61,Tryz.ntmps61
 go_wp2_with fail
 go_quiet (fail)
 go_wp2_with (first | (go_at_call 99;refine(Qcb _ _).mono ?_;rintro e w' ⟨rfl,rfl⟩))
 refine(HA.out _).mono ?_
 rintro e w1 ⟨rfl,He⟩
 have hB:Qca w1 (w.heap.size+1) #[.int .i64 0,.string ⟨#[]⟩,.int .i64 0,.int .i64 0,.int .i64 0,.int .i64 0] 65:=(He.block (w.heap.size+1) (by simp)).trans (Q1p w _ _ _).out
 obtain⟨⟨c0,c1,c2,c3,c4,c5⟩,f0,f1,f2,f3,f4,f5⟩:=six hB
 have Hj:=hB.lt
 have Hn:Below w.heap.size w w1:=Below.trans (by repeat (first|with_reducible exact Below.refl _ _|with_reducible assumption|with_reducible refine Below.setCell ?_ (by simp) _|with_reducible refine Below.alloc ?_ (by simp;try omega) _|with_reducible refine below_drewN ?_ _|with_reducible refine Below.drew ?_)) (He.mono (by simp;omega))
 go_wp2_with fail
 exact bodyPost_ret (v:=.tuple #[.agg #[.int .i64 3,.string ⟨Q.1.toArray⟩,.int .i64 0,.int .i64 0,.int .i64 0,.int .i64 0],.int .i64 Q.2.1,.int .i64 Q.2.2]) (by simp[results,Tryz.results61,go_sem,c0,c1,c2,c3,c4,c5]) rfl (Qgc.of hF.out rfl (by repeat (first|with_reducible exact Below.refl _ _|with_reducible assumption|with_reducible refine Below.setCell ?_ (by simp) _|with_reducible refine Below.alloc ?_ (by simp;try omega) _|with_reducible refine below_drewN ?_ _|with_reducible refine Below.drew ?_)))
theorem Q9j(s:ByteArray)(a n:Nat):s.extract (a+1) (a+1+n)=⟨(((s.data.toList.drop a).take (n+1)).drop 1).toArray⟩:=by
 rw[QHc,List.drop_take,List.drop_drop,show n+1-1=n from by omega]
set_option maxRecDepth 100000 in
theorem Q3l(s:ByteArray)(a:Nat)(line col:Int)(w:World)(hs:s.size≤16000)(h1:a<s.size)(hc:¬(Qja s[a].toNat=true∨(s[a].toNat:Int)=95∨(s[a].toNat:Int)=35))(hd:QOa s[a].toNat=false)(hq:¬(s[a].toNat:Int)=34)(mN:(s[a].toNat:Int)=38)(gW:a+1<s.size)(hl:Qja s[a+1].toNat=true∨(s[a+1].toNat:Int)=95) :
 Calls Tryz.prog 61 #[.agg (QHa s a line col)] w (Qgc s a w):=by
 unfold QHa
 have hH:=QYi s a h1
 have hG:=QWf s a 1 gW
 have hF:=hid (show Qya (s.data.toList.drop a)=(⟨6,((s.data.toList.drop a).take (QSa QIa (s.data.toList.drop (a+1))+1)).drop 1,0,0,0⟩,QSa QIa (s.data.toList.drop (a+1))+1,0)from by
  unfold Qya;simp only[hH];rw[if_neg hc,if_neg (by simp[hd]),if_neg hq,if_pos ⟨mN,by rw[Qcg];omega,by rw[hG];rcases hl with h|h;exact .inl h;right;omega⟩,List.drop_drop])
 have gH:∀wx,Calls Tryz.prog 100 #[.string s,.int .i64 ((a:Int)+1),.bool false] wx fun e w'=>e = .returned (.int .i64 (QSa QIa (s.data.toList.drop (a+1))))∧wx=w':=fun wx=>Qlj s (a+1) false wx (by omega) (by omega)
 have hn:=Qnc QIa (s.data.toList.drop (a+1))
 generalize QSa QIa (s.data.toList.drop (a+1))=n at hF gH hn
 have HR:=hid gH;clear gH
 have hn':a+1+n≤s.size:=by simp at hn;omega
 have hq':((s[a].toNat:Int) == 34)=false:=by simpa using hq
 have dE:((s[a].toNat:Int) == 38)=true:=by simpa using mN
 have jB:decide (48≤(s[a].toNat:Int))=false:=by simp;omega
 obtain⟨h,h',h''⟩:=Qqi _ hc
 clear hn hH hG hc hq mN hd
 have gO:Qja s[a+1].toNat=true∨Qja s[a+1].toNat=false∧((s[a+1].toNat:Int) == 95)=true:=by
  cases hx:Qja s[a+1].toNat
  ·right;rcases hl with h|h;rw[hx]at h;cases h;exact⟨rfl,by simpa using h⟩
  ·exact .inl rfl
 clear hl
 rcases gO with g|⟨g,g'⟩
 all_goals
  go_enter Tryz.func61,Tryz.ntmps61
  go_wp2_with fail
  go_quiet (fail)
  go_wp2_with (first | (go_at_call 99;refine(Qcb _ _).mono ?_;rintro e w' ⟨rfl,rfl⟩) | (go_at_call 100;refine(HR.out _).mono ?_;rintro e w' ⟨rfl,rfl⟩))
  exact bodyPost_ret (v:=.tuple #[.agg #[.int .i64 6,.string (s.extract (a+1) (a+1+n)),.int .i64 0,.int .i64 0,.int .i64 0,.int .i64 0],.int .i64 (n+1),.int .i64 0]) (by simp[results,Tryz.results61,go_sem]) rfl (Qgc.of hF.out (by rw[Q9j];rfl) (by repeat (first|with_reducible exact Below.refl _ _|with_reducible assumption|with_reducible refine Below.setCell ?_ (by simp) _|with_reducible refine Below.alloc ?_ (by simp;try omega) _|with_reducible refine below_drewN ?_ _|with_reducible refine Below.drew ?_)))
theorem Qhm{l:List UInt8}(h:QEc l≠0):(QSa QQa (l.drop 1) > 0∧QSa QQa (l.drop 1)+1<l.length∧(l.getD (QSa QQa (l.drop 1)+1) 0).toNat=47)∧QEc l=QSa QQa (l.drop 1)+2:=by
 unfold QEc at h ⊢
 split at h
 ·rename_i g;exact⟨g,by rw[if_pos g]⟩
 ·exact absurd rfl h
theorem QGk{l:List UInt8}(h:QEc l=0):¬(QSa QQa (l.drop 1) > 0∧QSa QQa (l.drop 1)+1<l.length∧(l.getD (QSa QQa (l.drop 1)+1) 0).toNat=47):=by
 unfold QEc at h
 intro g
 rw[if_pos g]at h
 omega
set_option maxRecDepth 100000 in
theorem QCk(s:ByteArray)(a:Nat)(line col:Int)(w:World)(hs:s.size≤16000)(h1:a<s.size)(hc:¬(Qja s[a].toNat=true∨(s[a].toNat:Int)=95∨(s[a].toNat:Int)=35))(hd:QOa s[a].toNat=false)(hq:¬(s[a].toNat:Int)=34)(Kx:(s[a].toNat:Int)=47)(mh:QEc (s.data.toList.drop a)≠0) :
 Calls Tryz.prog 61 #[.agg (QHa s a line col)] w (Qgc s a w):=by
 unfold QHa
 have hH:=QYi s a h1
 obtain⟨hp,hv⟩:=Qhm mh
 have hF:=hid (show Qya (s.data.toList.drop a)=(⟨7,((s.data.toList.drop a).take (QSa QQa ((s.data.toList.drop a).drop 1)+1)).drop 1,0,0,0⟩,QSa QQa ((s.data.toList.drop a).drop 1)+2,0)from by
  unfold Qya;simp only[hH];rw[if_neg hc,if_neg (by simp[hd]),if_neg hq,if_neg (by rintro ⟨x,_⟩;omega),if_pos Kx,if_pos hp])
 have jI:=fun wx=>Qbg s a wx (by omega) h1
 rw[hv]at jI
 have hn:a+(QSa QQa ((s.data.toList.drop a).drop 1)+2)≤s.size:=by have:=hp.2.1;rw[Qcg]at this;omega
 clear hp mh hv
 generalize QSa QQa ((s.data.toList.drop a).drop 1)=n at hF jI hn
 have bV:∀wx,Calls Tryz.prog 104 #[.string s,.int .i64 a] wx fun e w'=>e = .returned (.int .i64 ((n:Int)+2))∧wx=w':=jI
 have HR:=hid bV;clear jI bV
 have hq':((s[a].toNat:Int) == 34)=false:=by simpa using hq
 have dE:((s[a].toNat:Int) == 38)=false:=by simp;omega
 have iz:((s[a].toNat:Int) == 47)=true:=by simpa using Kx
 have jB:decide (48≤(s[a].toNat:Int))=false:=by simp;omega
 obtain⟨h,h',h''⟩:=Qqi _ hc
 clear hH hc hq Kx hd
 go_enter Tryz.func61,Tryz.ntmps61
 go_wp2_with fail
 go_quiet (fail)
 go_wp2_with (first | (go_at_call 99;refine(Qcb _ _).mono ?_;rintro e w' ⟨rfl,rfl⟩) | (go_at_call 104;refine(HR.out _).mono ?_;rintro e w' ⟨rfl,rfl⟩))
 exact bodyPost_ret (v:=.tuple #[.agg #[.int .i64 7,.string (s.extract (a+1) (a+(n+1))),.int .i64 0,.int .i64 0,.int .i64 0,.int .i64 0],.int .i64 (n+2),.int .i64 0]) (by simp[results,Tryz.results61,go_sem]) rfl (Qgc.of hF.out (by rw[show a+(n+1)=a+1+n from by omega,Q9j];rfl) (by repeat (first|with_reducible exact Below.refl _ _|with_reducible assumption|with_reducible refine Below.setCell ?_ (by simp) _|with_reducible refine Below.alloc ?_ (by simp;try omega) _|with_reducible refine below_drewN ?_ _|with_reducible refine Below.drew ?_)))
def Qii(k:Nat):ByteArray:=⟨(QVa.getD k []).toArray⟩
def Qji:Array Value:=#[.string ⟨#[60,60]⟩,.string ⟨#[62,62]⟩,.string ⟨#[60,61]⟩,.string ⟨#[62,61]⟩,.string ⟨#[61,61]⟩,.string ⟨#[33,61]⟩,.string ⟨#[38,38]⟩,.string ⟨#[124,124]⟩]
theorem QRd{p:Nat→Prop}(h0:p 0)(h1:p 1)(h2:p 2)(h3:p 3)(h4:p 4)(h5:p 5)(h6:p 6)(h7:p 7):∀k,k<8→p k
 | 0,_=>h0
 | 1,_=>h1
 | 2,_=>h2
 | 3,_=>h3
 | 4,_=>h4
 | 5,_=>h5
 | 6,_=>h6
 | 7,_=>h7
 | n+8,h=>absurd h (by omega)
theorem Qki:∀k,k<8→Qji[k]? = some (.string (Qii k)):=QRd rfl rfl rfl rfl rfl rfl rfl rfl
theorem Qmi:∀k,k<8→(Qii k).size=2:=QRd rfl rfl rfl rfl rfl rfl rfl rfl
theorem Q8m:∀k,k<8→QVa.getD k []∈QVa:=QRd (by decide) (by decide) (by decide) (by decide) (by decide) (by decide) (by decide) (by decide)
theorem Q7m:∀k,k<8→(QVa.getD k []).length=2:=QRd rfl rfl rfl rfl rfl rfl rfl rfl
theorem QRj{l:List UInt8}{k:Nat}(hk:k<8)(h:Lib.hasPrefix l (QVa.getD k [])=true):QHb l=2∧l.take 2=QVa.getD k []:=by
 constructor
 ·unfold QHb
  rw[if_pos]
  exact List.any_eq_true.2 ⟨_,Q8m k hk,h⟩
 ·have:=List.prefix_iff_eq_take.1 (List.isPrefixOf_iff_prefix.1 h)
  rw[Q7m k hk]at this
  exact this.symm
theorem Qli{l:List UInt8}(h:∀m,m<8→Lib.hasPrefix l (QVa.getD m [])=false):QHb l=if Qyd QRc (l.headD 0).toNat=true then 1 else 0:=by
 unfold QHb
 rw[if_neg]
 have e:QVa=[QVa.getD 0 [],QVa.getD 1 [],QVa.getD 2 [],QVa.getD 3 [],QVa.getD 4 [],QVa.getD 5 [],QVa.getD 6 [],QVa.getD 7 []]:=rfl
 rw[e]
 simp only[List.any_cons,List.any_nil]
 rw[h 0 (by omega),h 1 (by omega),h 2 (by omega),h 3 (by omega),h 4 (by omega),h 5 (by omega),h 6 (by omega),h 7 (by omega)]
 decide
theorem Q5k{w:World}{b:Nat}{cs:Array Value}{t:TypeId}(h:Qca w b cs t){k:Nat}{v:Value}(hv:cs[k]? = some v):w.cell? ⟨b,k,none⟩=some v:=by rw[h.cell k,hv]
def Qlq(s:ByteArray)(a:Nat)(line col:Int)(w:World)(f:Nat)(y:Value)(wr:World):Prop:=
 ∃k:Nat,k≤8∧8≤k+f∧y = .int .i64 k∧(∀m,m<k→Lib.hasPrefix (s.data.toList.drop a) (QVa.getD m [])=false)∧Qca wr w.heap.size (QHa s a line col) 111∧
  Qca wr (w.heap.size+1) #[.int .i64 0,.string ⟨#[]⟩,.int .i64 0,.int .i64 0,.int .i64 0,.int .i64 0] 65∧Qca wr (w.heap.size+2) Qji 9∧Below w.heap.size w wr
theorem Qpq(w:World)(o p:Obj)(n:Nat)(cs:Array Value)(t:TypeId):Qca ((((w.alloc o).alloc p).drewN n).alloc (.cells cs t)) (w.heap.size+2) cs t:=by
 have h:=Qca.new (((w.alloc o).alloc p).drewN n) cs t
 rwa [show(((w.alloc o).alloc p).drewN n).heap.size=w.heap.size+2 from by simp]at h
def Q5n(s:ByteArray)(a:Nat)(h1:a<s.size):Prop:=
 (((s[a].toNat:Int) == 38)=false∧((s[a].toNat:Int) == 47)=false)∨(((s[a].toNat:Int) == 38)=true∧((s[a].toNat:Int) == 47)=false∧¬a+1<s.size)∨
 (((s[a].toNat:Int) == 38)=true∧((s[a].toNat:Int) == 47)=false∧∃g:a+1<s.size,Qja s[a+1].toNat=false∧((s[a+1].toNat:Int) == 95)=false)∨
 (((s[a].toNat:Int) == 38)=false∧((s[a].toNat:Int) == 47)=true∧Hid (QEc (s.data.toList.drop a)=0))
set_option maxRecDepth 100000 in
theorem QVd(s:ByteArray)(a:Nat)(line col:Int)(w:World)(hs:s.size≤16000)(h1:a<s.size)(hc:¬(Qja s[a].toNat=true∨(s[a].toNat:Int)=95∨(s[a].toNat:Int)=35))(hd:QOa s[a].toNat=false)(hq:¬(s[a].toNat:Int)=34)
 (hway:Q5n s a h1) (Hf:Qya (s.data.toList.drop a)=sgT (s.data.toList.drop a)) :
 Calls Tryz.prog 61 #[.agg (QHa s a line col)] w (Qgc s a w):=by
 have hH:=QYi s a h1
 have G7:=hid Hf;clear Hf
 have hq':((s[a].toNat:Int) == 34)=false:=by simpa using hq
 have jB:¬(48≤(s[a].toNat:Int)∧(s[a].toNat:Int)≤57):=by unfold QOa at hd;simpa using hd
 have nB:decide (48≤(s[a].toNat:Int))=false∨decide (48≤(s[a].toNat:Int))=true∧decide ((s[a].toNat:Int)≤57)=false:=by
  by_cases x:48≤(s[a].toNat:Int)
  ·right;simp;omega
  ·left;simp;omega
 obtain⟨h,h',h''⟩:=Qqi _ hc
 have jI:=fun wx=>Qbg s a wx (by omega) h1
 have HH:=hid hH
 have tg:=hid jI
 have kb:∀wx,Calls Tryz.prog 96 #[.int .u8 s[a].toNat,.string ⟨#[123,125,40,41,60,62,91,93,59,61,44,43,45,42,47,37,38,124,94,126,33,63,58]⟩] wx fun e w'=>e = .returned (.bool (Qyd QRc s[a].toNat))∧wx=w':=fun wx=>Q9f s[a].toNat ⟨#[123,125,40,41,60,62,91,93,59,61,44,43,45,42,47,37,38,124,94,126,33,63,58]⟩ wx (by simp[maxLen,ByteArray.size])
 have nh:=hid kb
 have ip:QEc (s.data.toList.drop a)=0→Hid (∀wx,Calls Tryz.prog 104 #[.string s,.int .i64 a] wx fun e w'=>e = .returned (.int .i64 0)∧wx=w'):=by
  intro e wx
  have:=tg.out wx
  rw[e]at this
  exact this
 have oP:=hid ip
 clear hH hc hq hd jB jI kb ip
 have gO:(decide (48≤(s[a].toNat:Int))=true∧decide ((s[a].toNat:Int)≤57)=false∧((s[a].toNat:Int) == 38)=false∧((s[a].toNat:Int) == 47)=false)∨
  (decide (48≤(s[a].toNat:Int))=false∧((s[a].toNat:Int) == 38)=false∧((s[a].toNat:Int) == 47)=false)∨
  (decide (48≤(s[a].toNat:Int))=false∧((s[a].toNat:Int) == 38)=true∧((s[a].toNat:Int) == 47)=false∧¬a+1<s.size)∨
  (decide (48≤(s[a].toNat:Int))=false∧((s[a].toNat:Int) == 38)=true∧((s[a].toNat:Int) == 47)=false∧∃g:a+1<s.size,Qja s[a+1].toNat=false∧((s[a+1].toNat:Int) == 95)=false)∨
  (decide (48≤(s[a].toNat:Int))=false∧((s[a].toNat:Int) == 38)=false∧((s[a].toNat:Int) == 47)=true∧Hid (QEc (s.data.toList.drop a)=0)):=by
  rcases hway with⟨x,y⟩|⟨x,y,z⟩|⟨x,y,z⟩|⟨x,y,z⟩
  ·rcases nB with d|⟨d,d'⟩
   ·exact .inr (.inl ⟨d,x,y⟩)
   ·exact .inl ⟨d,d',x,y⟩
  ·refine .inr (.inr (.inl ⟨?_,x,y,z⟩));simp at x ⊢;omega
  ·refine .inr (.inr (.inr (.inl ⟨?_,x,y,z⟩)));simp at x ⊢;omega
  ·refine .inr (.inr (.inr (.inr ⟨?_,x,y,z⟩)));simp at y ⊢;omega
 clear hway nB
 unfold QHa
 rcases gO with⟨x1,x2,x3,x4⟩|⟨x1,x2,x3⟩|⟨x1,x2,x3,x4⟩|⟨x1,x2,x3,x4,x5,x6⟩|⟨x1,x2,x3,x4⟩
 rotate_left 4
 ·have q8:=oP.out x4.out
  go_enter Tryz.func61,Tryz.ntmps61
  go_wp2_with fail
  go_quiet (fail)
  go_upto_region 25 with(first | (go_at_call 99;refine(Qcb _ _).mono ?_;rintro e w' ⟨rfl,rfl⟩) | (go_at_call 104;refine(q8.out _).mono ?_;rintro e w' ⟨rfl,rfl⟩))
  go_wp2_with fail
  go_loopg [173] 8 (fun f y wr=>Qlq s a line col w f y wr)
  case atStart=>exact⟨0,by omega,by omega,rfl,by intro m hm;omega,(((Qca.new w _ _).alloc _).drewN _).alloc _,((Q1p w _ _ _).drewN _).alloc _,Qpq w _ _ _ _ _,(by repeat (first|with_reducible exact Below.refl _ _|with_reducible assumption|with_reducible refine Below.setCell ?_ (by simp) _|with_reducible refine Below.alloc ?_ (by simp;try omega) _|with_reducible refine below_drewN ?_ _|with_reducible refine Below.drew ?_))⟩
  case round=>
   obtain⟨k,hk,hf,rfl,MO,hB,hT,hP,gq⟩:=hrel
   have JI:=hid MO;clear MO
   obtain⟨⟨c0,c1,c2,c3,c4,c5⟩,f0,f1,f2,f3,f4,f5⟩:=six hT
   have Hj:=hT.lt
   by_cases gn:k<8
   ·have uw:=Q5k hP (Qki k gn)
    have Mi:∀wx,Qca wx w.heap.size (QHa s a line col) 111→Calls Tryz.prog 97 #[.pointer (some ⟨w.heap.size,0,none⟩),.string (Qii k)] wx fun e w'=>e = .returned (.bool (Lib.hasPrefix (s.data.toList.drop a) (QVa.getD k [])))∧∃n,w'=wx.drewN n:=fun wx hh=>QUd s (Qii k) a line col _ wx hh (by omega) (by omega) (by rw[Qmi k gn];omega)
    cases hp:Lib.hasPrefix (s.data.toList.drop a) (QVa.getD k [])
    ·rw[hp]at Mi
     have M8:=hid hp;clear hp
     go_wp2_with fail
     refine(Mi _ (by exact hB)).mono ?_
     rintro e w1 ⟨rfl,n1,rfl⟩
     go_wp2_with fail
     go_roundg (gk-1)
     case measure=>omega
     case rel=>exact⟨k+1,by omega,by omega,by go_num,by intro m hm;rcases Nat.lt_succ_iff_lt_or_eq.1 hm with h|rfl;exact JI.out m h;exact M8.out,hB,hT,hP,below_drewN gq _⟩
    ·rw[hp]at Mi
     obtain⟨e1,e2⟩:=QRj gn hp
     have hR:=hid (show Qya (s.data.toList.drop a)=(⟨4,QVa.getD k [],0,0,0⟩,2,0)from by rw[G7.out];unfold sgT;rw[e1,if_pos (by omega),e2])
     clear hp e1 e2
     go_wp2_with fail
     refine(Mi _ (by exact hB)).mono ?_
     rintro e w1 ⟨rfl,n1,rfl⟩
     go_wp2_with fail
     exact bodyPost_ret (v:=.tuple #[.agg #[.int .i64 4,.string (Qii k),.int .i64 0,.int .i64 0,.int .i64 0,.int .i64 0],.int .i64 2,.int .i64 0]) (by simp[results,Tryz.results61,go_sem,c0,c1,c2,c3,c4,c5]) rfl (Qgc.of hR.out rfl (by repeat (first|with_reducible exact Below.refl _ _|with_reducible assumption|with_reducible refine Below.setCell ?_ (by simp) _|with_reducible refine Below.alloc ?_ (by simp;try omega) _|with_reducible refine below_drewN ?_ _|with_reducible refine Below.drew ?_)))
   ·have hk:k=8:=by omega
    subst hk
    have l9:=hid (Qli JI.out)
    cases hm:Qyd QRc s[a].toNat
    ·have hR:=hid (show Qya (s.data.toList.drop a)=(⟨0,[],0,0,0⟩,0,20)from by rw[G7.out];unfold sgT;rw[l9.out,HH.out,hm];simp)
     go_wp2_with (first | (go_at_call 96;refine(nh.out _).mono ?_;rintro e w' ⟨rfl,rfl⟩))
     exact bodyPost_ret (v:=.tuple #[.agg #[.int .i64 0,.string ⟨#[]⟩,.int .i64 0,.int .i64 0,.int .i64 0,.int .i64 0],.int .i64 0,.int .i64 20]) (by simp[results,Tryz.results61,go_sem,c0,c1,c2,c3,c4,c5]) rfl (Qgc.of hR.out rfl (by repeat (first|with_reducible exact Below.refl _ _|with_reducible assumption|with_reducible refine Below.setCell ?_ (by simp) _|with_reducible refine Below.alloc ?_ (by simp;try omega) _|with_reducible refine below_drewN ?_ _|with_reducible refine Below.drew ?_)))
    ·have hR:=hid (show Qya (s.data.toList.drop a)=(⟨4,(s.data.toList.drop a).take 1,0,0,0⟩,1,0)from by rw[G7.out];unfold sgT;rw[l9.out,HH.out,hm];simp)
     go_wp2_with (first | (go_at_call 96;refine(nh.out _).mono ?_;rintro e w' ⟨rfl,rfl⟩))
     exact bodyPost_ret (v:=.tuple #[.agg #[.int .i64 4,.string (s.extract a (a+1)),.int .i64 0,.int .i64 0,.int .i64 0,.int .i64 0],.int .i64 1,.int .i64 0]) (by simp[results,Tryz.results61,go_sem,c0,c1,c2,c3,c4,c5]) rfl (Qgc.of hR.out (by rw[QHc];rfl) (by repeat (first|with_reducible exact Below.refl _ _|with_reducible assumption|with_reducible refine Below.setCell ?_ (by simp) _|with_reducible refine Below.alloc ?_ (by simp;try omega) _|with_reducible refine below_drewN ?_ _|with_reducible refine Below.drew ?_)))
 all_goals
  go_enter Tryz.func61,Tryz.ntmps61
  go_wp2_with fail
  go_quiet (fail)
  go_upto_region 25 with(first | (go_at_call 99;refine(Qcb _ _).mono ?_;rintro e w' ⟨rfl,rfl⟩))
  go_wp2_with fail
  go_loopg [173] 8 (fun f y wr=>Qlq s a line col w f y wr)
  case atStart=>exact⟨0,by omega,by omega,rfl,by intro m hm;omega,(((Qca.new w _ _).alloc _).drewN _).alloc _,((Q1p w _ _ _).drewN _).alloc _,Qpq w _ _ _ _ _,(by repeat (first|with_reducible exact Below.refl _ _|with_reducible assumption|with_reducible refine Below.setCell ?_ (by simp) _|with_reducible refine Below.alloc ?_ (by simp;try omega) _|with_reducible refine below_drewN ?_ _|with_reducible refine Below.drew ?_))⟩
  case round=>
   obtain⟨k,hk,hf,rfl,MO,hB,hT,hP,gq⟩:=hrel
   have JI:=hid MO;clear MO
   obtain⟨⟨c0,c1,c2,c3,c4,c5⟩,f0,f1,f2,f3,f4,f5⟩:=six hT
   have Hj:=hT.lt
   by_cases gn:k<8
   ·have uw:=Q5k hP (Qki k gn)
    have Mi:∀wx,Qca wx w.heap.size (QHa s a line col) 111→Calls Tryz.prog 97 #[.pointer (some ⟨w.heap.size,0,none⟩),.string (Qii k)] wx fun e w'=>e = .returned (.bool (Lib.hasPrefix (s.data.toList.drop a) (QVa.getD k [])))∧∃n,w'=wx.drewN n:=fun wx hh=>QUd s (Qii k) a line col _ wx hh (by omega) (by omega) (by rw[Qmi k gn];omega)
    cases hp:Lib.hasPrefix (s.data.toList.drop a) (QVa.getD k [])
    ·rw[hp]at Mi
     have M8:=hid hp;clear hp
     go_wp2_with fail
     refine(Mi _ (by exact hB)).mono ?_
     rintro e w1 ⟨rfl,n1,rfl⟩
     go_wp2_with fail
     go_roundg (gk-1)
     case measure=>omega
     case rel=>exact⟨k+1,by omega,by omega,by go_num,by intro m hm;rcases Nat.lt_succ_iff_lt_or_eq.1 hm with h|rfl;exact JI.out m h;exact M8.out,hB,hT,hP,below_drewN gq _⟩
    ·rw[hp]at Mi
     obtain⟨e1,e2⟩:=QRj gn hp
     have hR:=hid (show Qya (s.data.toList.drop a)=(⟨4,QVa.getD k [],0,0,0⟩,2,0)from by rw[G7.out];unfold sgT;rw[e1,if_pos (by omega),e2])
     clear hp e1 e2
     go_wp2_with fail
     refine(Mi _ (by exact hB)).mono ?_
     rintro e w1 ⟨rfl,n1,rfl⟩
     go_wp2_with fail
     exact bodyPost_ret (v:=.tuple #[.agg #[.int .i64 4,.string (Qii k),.int .i64 0,.int .i64 0,.int .i64 0,.int .i64 0],.int .i64 2,.int .i64 0]) (by simp[results,Tryz.results61,go_sem,c0,c1,c2,c3,c4,c5]) rfl (Qgc.of hR.out rfl (by repeat (first|with_reducible exact Below.refl _ _|with_reducible assumption|with_reducible refine Below.setCell ?_ (by simp) _|with_reducible refine Below.alloc ?_ (by simp;try omega) _|with_reducible refine below_drewN ?_ _|with_reducible refine Below.drew ?_)))
   ·have hk:k=8:=by omega
    subst hk
    have l9:=hid (Qli JI.out)
    cases hm:Qyd QRc s[a].toNat
    ·have hR:=hid (show Qya (s.data.toList.drop a)=(⟨0,[],0,0,0⟩,0,20)from by rw[G7.out];unfold sgT;rw[l9.out,HH.out,hm];simp)
     go_wp2_with (first | (go_at_call 96;refine(nh.out _).mono ?_;rintro e w' ⟨rfl,rfl⟩))
     exact bodyPost_ret (v:=.tuple #[.agg #[.int .i64 0,.string ⟨#[]⟩,.int .i64 0,.int .i64 0,.int .i64 0,.int .i64 0],.int .i64 0,.int .i64 20]) (by simp[results,Tryz.results61,go_sem,c0,c1,c2,c3,c4,c5]) rfl (Qgc.of hR.out rfl (by repeat (first|with_reducible exact Below.refl _ _|with_reducible assumption|with_reducible refine Below.setCell ?_ (by simp) _|with_reducible refine Below.alloc ?_ (by simp;try omega) _|with_reducible refine below_drewN ?_ _|with_reducible refine Below.drew ?_)))
    ·have hR:=hid (show Qya (s.data.toList.drop a)=(⟨4,(s.data.toList.drop a).take 1,0,0,0⟩,1,0)from by rw[G7.out];unfold sgT;rw[l9.out,HH.out,hm];simp)
     go_wp2_with (first | (go_at_call 96;refine(nh.out _).mono ?_;rintro e w' ⟨rfl,rfl⟩))
     exact bodyPost_ret (v:=.tuple #[.agg #[.int .i64 4,.string (s.extract a (a+1)),.int .i64 0,.int .i64 0,.int .i64 0,.int .i64 0],.int .i64 1,.int .i64 0]) (by simp[results,Tryz.results61,go_sem,c0,c1,c2,c3,c4,c5]) rfl (Qgc.of hR.out (by rw[QHc];rfl) (by repeat (first|with_reducible exact Below.refl _ _|with_reducible assumption|with_reducible refine Below.setCell ?_ (by simp) _|with_reducible refine Below.alloc ?_ (by simp;try omega) _|with_reducible refine below_drewN ?_ _|with_reducible refine Below.drew ?_)))
theorem QQd{l:List UInt8}{c:UInt8}(hH:l.headD 0=c)(hc:¬(Qja c.toNat=true∨(c.toNat:Int)=95∨(c.toNat:Int)=35))(hd:QOa c.toNat=false)(hq:¬(c.toNat:Int)=34)
 (mN:¬((c.toNat:Int)=38∧1<l.length∧(Qja (l.getD 1 0).toNat=true∨(l.getD 1 0).toNat=95))) (Kx:(c.toNat:Int)=47→QEc l=0):Qya l=sgT l:=by
 unfold Qya;simp only[hH];rw[if_neg hc,if_neg (by simp[hd]),if_neg hq,if_neg mN]
 by_cases h:(c.toNat:Int)=47
 ·rw[if_pos h,if_neg (QGk (Kx h))];rfl
 ·rw[if_neg h];rfl
theorem Qun(s:ByteArray)(a:Nat)(line col:Int)(w:World)(hs:s.size≤16000)(h1:a<s.size):Calls Tryz.prog 61 #[.agg (QHa s a line col)] w (Qgc s a w):=by
 have hH:=QYi s a h1
 by_cases hc:Qja s[a].toNat=true∨(s[a].toNat:Int)=95∨(s[a].toNat:Int)=35
 ·exact QBk s a line col w hs h1 hc
 ·cases hd:QOa s[a].toNat
  ·by_cases hq:(s[a].toNat:Int)=34
   ·exact Qui s a line col w hs h1 hc hd hq
   ·by_cases Kx:(s[a].toNat:Int)=47
    ·by_cases mh:QEc (s.data.toList.drop a)=0
     ·exact QVd s a line col w hs h1 hc hd hq (.inr (.inr (.inr ⟨by simp;omega,by simpa using Kx,mh⟩))) (QQd hH hc hd hq (by rintro ⟨x,_⟩;omega) (fun _=>mh))
     ·exact QCk s a line col w hs h1 hc hd hq Kx mh
    ·by_cases mN:(s[a].toNat:Int)=38
     ·by_cases gW:a+1<s.size
      ·have hG:=QWf s a 1 gW
       by_cases hl:Qja s[a+1].toNat=true∨(s[a+1].toNat:Int)=95
       ·exact Q3l s a line col w hs h1 hc hd hq mN gW hl
       ·refine QVd s a line col w hs h1 hc hd hq (.inr (.inr (.inl ⟨by simpa using mN,by simp;omega,gW,?_,?_⟩))) (QQd hH hc hd hq (by rintro ⟨_,_,x⟩;rw[hG]at x;apply hl;rcases x with x|x;exact .inl x;right;omega) (fun x=>absurd x Kx))
        ·cases hx:Qja s[a+1].toNat;rfl;exact absurd (.inl hx) hl
        ·simp;intro hx;exact hl (.inr hx)
      ·exact QVd s a line col w hs h1 hc hd hq (.inr (.inl ⟨by simpa using mN,by simp;omega,gW⟩)) (QQd hH hc hd hq (by rintro ⟨_,x,_⟩;rw[Qcg]at x;omega) (fun x=>absurd x Kx))
     ·exact QVd s a line col w hs h1 hc hd hq (.inl ⟨by simp;omega,by simp;omega⟩) (QQd hH hc hd hq (by rintro ⟨x,_⟩;omega) (fun x=>absurd x Kx))
  ·exact Qnj s a line col w hs h1 hc hd
def Q9p(s:ByteArray)(file:Int)(w:World)(R:List Tok × (Int × Int × Int) × Int)(f:Nat)(v:Value)(wr:World):Prop:=
 ∃(j:Nat) (l c:Int) (toks:List Tok),j≤s.size∧s.size<j+f∧1≤l∧l≤j+1∧1≤c∧c≤j+1∧rdA file f (s.data.toList.drop j) (l,c) toks=R∧toks.length≤6000∧
  wr.ownsRow (w.heap.size+2) 65 6 v toks.length (Qpb file toks)∧Qca wr (w.heap.size+1) (QHa s j l c) 111∧Qca wr w.heap.size #[.int .i64 0,.int .i64 0,.int .i64 0] 27∧Below w.heap.size w wr
theorem Qsn(s:ByteArray)(file:Int)(w:World)(hs:s.size≤maxLen) :
 Calls Tryz.prog 33 #[.string s,.int .i64 file] w (QKd s file w):=by
 unfold maxLen at hs
 by_cases JR:16000<s.size
 ·have hF:=hid (show Qub s.data.toList file=([],(0,0,0),3)from by unfold Qub;rw[Q3d,if_pos JR])
  go_enter Tryz.func33,Tryz.ntmps33
  go_wp2_with fail
  exact bodyPost_ret (v:=.tuple #[.slice none 0 0,.agg #[.int .i64 0,.int .i64 0,.int .i64 0],.int .i64 3]) (by simp[results,Tryz.results33,go_sem]) rfl ⟨_,by rw[hF.out];rfl,by rw[hF.out];exact World.ownsRow_nil _ _ _ _,by repeat (first|with_reducible exact Below.refl _ _|with_reducible assumption|with_reducible refine Below.setCell ?_ (by first|omega|simp) _|with_reducible refine Below.alloc ?_ (by first|omega | (simp;omega) | simp) _|with_reducible refine below_drewN ?_ _|with_reducible refine Below.drew ?_)⟩
 ·have JR:s.size≤16000:=by omega
  have hF:Qub s.data.toList file=rdA file (s.size+1) s.data.toList (1,1) []:=by unfold Qub;rw[Q3d,if_neg (by omega)]
  unfold QKd
  generalize Qub s.data.toList file=R at hF
  have HF:=hid hF;clear hF
  go_enter Tryz.func33,Tryz.ntmps33
  go_wp2_with fail
  go_loopg [8] (s.size+1) (fun f v wr=>Q9p s file w R f v wr)
  case atStart=>exact⟨0,1,1,[],by omega,by omega,by omega,by omega,by omega,by omega,HF.out.symm,by simp,World.ownsRow_nil _ _ _ _,Q1p w _ (QHa s 0 1 1) _,(Qca.new w _ _).alloc _,by repeat (first|with_reducible exact Below.refl _ _|with_reducible assumption|with_reducible refine Below.setCell ?_ (by first|omega|simp) _|with_reducible refine Below.alloc ?_ (by first|omega | (simp;omega) | simp) _|with_reducible refine below_drewN ?_ _|with_reducible refine Below.drew ?_)⟩
  case round=>
   obtain⟨j,l,c,toks,hj,hf,Ks,KQ,mw,Kc,hE,gm,Hl,hH,hP,gq⟩:=hrel
   obtain⟨f,rfl⟩:∃f',gk=f'+1:=⟨gk-1,by omega⟩
   have kD:=Qvn s j l c (w.heap.size+1) wr hH hj JR Ks KQ mw Kc
   unfold Qpf at kD
   have G6:=QIj s j (s.size-j) hj
   have mu:blk (s.data.toList.drop j).length (s.data.toList.drop j)=blk (s.size-j) (s.data.toList.drop j):=by congr 1;simp
   generalize blk (s.size-j) (s.data.toList.drop j)=B at kD G6 mu
   obtain⟨bn,bx⟩:=B
   simp only at kD G6
   have Hm:=Qzg ((s.data.toList.drop j).take bn) (l,c) Ks mw
   have Hk:((s.data.toList.drop j).take bn).length≤bn:=by simp;omega
   have Gl:=@QRl file f (s.data.toList.drop j) (l,c) toks _ mu
   have gK:=@QWj file f (s.data.toList.drop j) (l,c) toks _ mu
   have H0:=@QTl file f (s.data.toList.drop j) (l,c) toks _ mu
   have H7:=@QUl file f (s.data.toList.drop j) (l,c) toks _ mu
   have H8:=@QZn file f (s.data.toList.drop j) (l,c) toks _ mu
   simp only at Gl gK H0 H7 H8 Hm
   rw[List.drop_drop]at H0 H7 H8
   rw[hE]at Gl gK H0 H7 H8
   generalize adv ((s.data.toList.drop j).take bn) (l,c)=p1 at kD Hm Gl gK H0 H7 H8
   obtain⟨l1,c1⟩:=p1
   simp only at kD Hm Gl gK H0 H7 H8
   obtain⟨k1,k2,k3,k4⟩:=Hm
   have k3':l1≤(j+bn:Nat)+1:=by omega
   have k4':c1≤(j+bn:Nat)+1:=by omega
   clear hE k3 k4 Hk mu
   generalize Gf:j+bn=j2 at kD G6 H0 H7 H8 k3' k4'
   have sn:j≤j2:=by omega
   clear Gf
   have HC:=hid Gl;clear Gl
   have fO:=hid gK;clear gK
   have cO:=hid H0;clear H0
   have fP:=hid H7;clear H7
   have fQ:=hid H8;clear H8
   have n9:=hid kD;clear kD
   obtain⟨ao,cap,rfl⟩:=Qrc Hl
   go_wp2_with fail
   refine n9.out.mono ?_
   rintro e w1 ⟨rfl,G1,gZ⟩
   have KO:=hP.keeps gZ (by omega)
   have He:Below w.heap.size w w1:=gq.trans (gZ.below gq.size (by intro i hi;omega))
   have gw:=Qba Hl gZ (by intro g hg;have:=(Hl.lt g hg).1;omega)
   have gW:=gZ.size
   have bS:=He.size
   have lF:=G1.lt
   have lE:=KO.lt
   obtain⟨q0,q1,q2,q3,q4,q5⟩:=tri KO
   obtain⟨r0,r1,r2,r3,r4,r5,r6,r7⟩:=Qod G1
   cases bx with
   | true=>
    have hR:=hid (HC.out rfl)
    go_wp2_with fail
    go_region
    go_wp2_with fail
    exact bodyPost_ret (v:=.tuple #[.slice none 0 0,.agg #[.int .i64 file,.int .i64 l1,.int .i64 c1],.int .i64 21]) (by simp[results,Tryz.results33,go_sem,q0,q1,q2,lE]) rfl ⟨_,by rw[hR.out];rfl,by rw[hR.out];exact World.ownsRow_nil _ _ _ _,by repeat (first|with_reducible exact Below.refl _ _|with_reducible assumption|with_reducible refine Below.setCell ?_ (by first|omega|simp) _|with_reducible refine Below.alloc ?_ (by first|omega | (simp;omega) | simp) _|with_reducible refine below_drewN ?_ _|with_reducible refine Below.drew ?_)⟩
   | false=>
    by_cases h6:toks.length=6000
    ·have h6':((toks.length:Int) == 6000)=true:=by simp[h6]
     have hR:=hid (fO.out rfl h6)
     clear h6
     go_wp2_with fail
     go_region
     go_wp2_with fail
     exact bodyPost_ret (v:=.tuple #[.slice none 0 0,.agg #[.int .i64 file,.int .i64 l1,.int .i64 c1],.int .i64 3]) (by simp[results,Tryz.results33,go_sem,q0,q1,q2,lE]) rfl ⟨_,by rw[hR.out];rfl,by rw[hR.out];exact World.ownsRow_nil _ _ _ _,by repeat (first|with_reducible exact Below.refl _ _|with_reducible assumption|with_reducible refine Below.setCell ?_ (by first|omega|simp) _|with_reducible refine Below.alloc ?_ (by first|omega | (simp;omega) | simp) _|with_reducible refine below_drewN ?_ _|with_reducible refine Below.drew ?_)⟩
    ·have h6':((toks.length:Int) == 6000)=false:=by simp;omega
     have tE:toks.length<6000:=by omega
     have H6:=hid h6;clear h6
     by_cases kv:j2=s.size
     ·have lc:((j2:Int) == (s.size:Int))=true:=by simp;omega
      have hR:=hid (cO.out rfl H6.out (Q9a s j2 (by omega)))
      clear kv
      obtain⟨i0,hi,GL,GM,GN⟩:=info_parts Qch
      go_wp2_with (at_builtin;refine wpList_append_own _ rfl _ _ 57 rfl (w.heap.size+2) 65 i0 _ 6 56 Tryz.underlying57 hi GL GM GN rfl (by decide) _ _ _ rfl ((gw.alloc _).alloc _) ⟨w1.heap.size+1,0,none⟩ 1 1 (Qxb file ⟨8,[],0,l1,c1⟩) rfl rfl ?c1 ?c2 ?c3 ?c4 ?c5 ?_)
      case c1=>exact Qlb _ _ _ _ (by simp) _ rfl
      case c2=>exact QKh _ _
      case c3=>unfold maxLen;omega
      case c4=>omega
      case c5=>simp;omega
      intro v' w3 Hp Ha _
      have jh:∀g,(Value.slice ao toks.length cap).ownBlock=some g→w.heap.size+2≤g:=fun g hg=>(gw.lt g hg).1
      have kC:Qca w3 w.heap.size #[.int .i64 0,.int .i64 0,.int .i64 0] 27:=((KO.alloc _).alloc _).grown Ha (fun e=>by have:=jh _ e;omega)
      have gv:Below w.heap.size w w3:=((He.alloc (by omega) _).alloc (by simp;omega) _).grown Ha (by simp;omega) (fun g hg=>by have:=jh g hg;omega)
      obtain⟨p0,p1,p2,p3,p4,p5⟩:=tri kC
      have gy:w3.ownsRow w.heap.size 65 6 v' (toks.length+1) (Qpb file (toks++[⟨8,[],0,l1,c1⟩])):=by rw[Qfc];exact Qef Hp (by omega)
      have eC:∀g,v'.ownBlock=some g→¬g=w.heap.size:=fun g hg=>by have:=(Hp.lt g hg).1;omega
      have bK:=kC.lt
      clear Hp Ha
      obtain⟨ao',cap',rfl⟩:=Qrc gy
      go_wp2_with fail
      exact bodyPost_ret (v:=.tuple #[.slice ao' (toks.length+1) cap',.agg #[.int .i64 0,.int .i64 0,.int .i64 0],.int .i64 0]) (by simp[results,Tryz.results33,go_sem,p0,p1,p2]) rfl ⟨_,by rw[hR.out];rfl,by
       rw[hR.out]
       simp only[List.length_append,List.length_singleton]
       exact Qba gy ((((Qaa.refl (fun i=>i=w.heap.size) w3).setCell (.inr rfl) _).setCell (.inr rfl) _).setCell (.inr rfl) _) eC,
       by repeat (first|with_reducible exact Below.refl _ _|with_reducible assumption|with_reducible refine Below.setCell ?_ (by first|omega|simp) _|with_reducible refine Below.alloc ?_ (by first|omega | (simp;omega) | simp) _|with_reducible refine below_drewN ?_ _|with_reducible refine Below.drew ?_)⟩
     ·have Gf:j2<s.size:=by omega
      have lc:((j2:Int) == (s.size:Int))=false:=by simp;omega
      have eh:s.data.toList.drop j2≠[]:=by rw[Qxa s j2 Gf];simp
      have G2:=fun wx=>Qun s j2 l1 c1 wx JR Gf
      unfold Qgc at G2
      have Gm:=QLg (s.data.toList.drop j2) eh
      have aH:=fun n hn wx hh=>QBh s j2 n l1 c1 (w.heap.size+1) wx hh hn (by omega) k1 k3' k2 k4'
      have mn:=hid (fun h=>fP.out rfl H6.out eh rfl h)
      have mo:=hid (fun h=>fQ.out rfl H6.out eh rfl h)
      clear fP fQ cO fO HC
      simp only[List.length_drop]at Gm
      generalize Qya (s.data.toList.drop j2)=T at G2 Gm mn mo
      obtain⟨tk,tn,te⟩:=T
      simp only at G2 Gm mn mo
      have gP:=hid G2;clear G2
      have dj:=hid aH;clear aH
      clear kv
      go_wp2_with fail
      refine(gP.out _).mono ?_
      rintro e w2 ⟨tk',tn',rfl,mg,Jb⟩
      unfold Qbb
      have MK:Qaa (fun _=>False) _ w2:=Qaa.of_fresh Jb _
      have GX:=(G1.alloc _).keeps MK (fun e=>e)
      have GU:=(KO.alloc _).keeps MK (fun e=>e)
      have JW:=(Qca.new w1 _ _).keeps MK (fun e=>e)
      have gy:=Qba (gw.alloc _) MK (fun _ _ e=>e)
      have Hn:Below w.heap.size w w2:=(He.alloc bS _).trans (Jb.mono (by simp;omega))
      have gE:=MK.size
      simp at gE
      have qq:=Hn.size
      clear q0 q1 q2 q3 q4 q5 r0 r1 r2 r3 r4 r5 r6 r7
      obtain⟨q0,q1,q2,q3,q4,q5⟩:=tri GU
      obtain⟨r0,r1,r2,r3,r4,r5,r6,r7⟩:=Qod GX
      obtain⟨u0,u1,u2,u3,u4,u5⟩:=tri JW
      have ki:=GX.lt
      have eA:=GU.lt
      have hltq:=JW.lt
      by_cases hte:te=0
      ·subst hte
       obtain⟨rfl,rfl⟩:=mg rfl
       obtain⟨t1,t2⟩:=Gm rfl
       have t2':j2+tn'≤s.size:=by rw[Q3d]at t2;omega
       have hR:=hid (mo.out rfl)
       clear mn mo Gm t2 mg
       obtain⟨i0,hi,GL,GM,GN⟩:=info_parts Qch
       go_wp2_with (at_builtin;refine wpList_append_own _ rfl _ _ 57 rfl (w.heap.size+2) 65 i0 _ 6 56 Tryz.underlying57 hi GL GM GN rfl (by decide) _ _ _ rfl ((gy.alloc _).alloc _) ⟨w2.heap.size+1,0,none⟩ 1 1 (Qxb file { tk' with line:=l1,col:=c1 }) rfl rfl ?c1 ?c2 ?c3 ?c4 ?c5 ?_)
       case c1=>exact Qlb _ _ _ _ (by simp) _ rfl
       case c2=>exact QKh _ _
       case c3=>unfold maxLen;omega
       case c4=>omega
       case c5=>simp;omega
       intro v' w3 Hp Ha _
       have jh:∀g,(Value.slice ao toks.length cap).ownBlock=some g→w.heap.size+2≤g:=fun g hg=>(gw.lt g hg).1
       have kC:Qca w3 w.heap.size #[.int .i64 0,.int .i64 0,.int .i64 0] 27:=((GU.alloc _).alloc _).grown Ha (fun e=>by have:=jh _ e;omega)
       have ky:Qca w3 (w.heap.size+1) (QHa s j2 l1 c1) 111:=((GX.alloc _).alloc _).grown Ha (fun e=>by have:=jh _ e;omega)
       have gv:Below w.heap.size w w3:=((Hn.alloc qq _).alloc (by simp;omega) _).grown Ha (by simp;omega) (fun g hg=>by have:=jh g hg;omega)
       have Kv:w3.ownsRow (w.heap.size+2) 65 6 v' (toks.length+1) (Qpb file (toks++[{ tk' with line:=l1,col:=c1 }])):=by rw[Qfc];exact Hp
       have eC:∀g,v'.ownBlock=some g→¬g=w.heap.size+1:=fun g hg=>by have:=(Hp.lt g hg).1;omega
       clear Hp Ha
       have bK:=ky.lt
       clear q0 q1 q2 q3 q4 q5 r0 r1 r2 r3 r4 r5 r6 r7 u0 u1 u2 u3 u4 u5
       go_wp2_with fail
       refine(dj.out tn' t2' _ ky).mono ?_
       rintro e w4 ⟨rfl,KY,Gn⟩
       have jd:=kC.keeps Gn (by omega)
       have Kb:Below w.heap.size w w4:=gv.trans (Gn.below gv.size (by intro i hi;omega))
       have g8:=Qba Kv Gn eC
       go_wp2_with fail
       go_roundg f
       case measure=>omega
       case rel=>
        have Hm:=Qzg ((s.data.toList.drop j2).take tn') (l1,c1) k1 k2
        have kV:((s.data.toList.drop j2).take tn').length≤tn':=by simp;omega
        have KZ:=hR.out.symm
        rw[List.drop_drop]at KZ
        exact⟨j2+tn',_,_,toks++[{ tk' with line:=l1,col:=c1 }],t2',by omega,Hm.1,by simp at Hm;omega,Hm.2.1,by simp at Hm;omega,KZ,by simp;omega,by simpa using g8,KY,jd,Kb⟩
      ·have hR:=hid (mn.out hte)
       have qy:(te != 0)=true:=by simpa using hte
       clear mn mo Gm hte mg
       go_wp2_with fail
       go_region
       go_wp2_with fail
       exact bodyPost_ret (v:=.tuple #[.slice none 0 0,.agg #[.int .i64 file,.int .i64 l1,.int .i64 c1],.int .i64 te]) (by simp[results,Tryz.results33,go_sem,q0,q1,q2,eA]) rfl ⟨_,by rw[hR.out];rfl,by rw[hR.out];exact World.ownsRow_nil _ _ _ _,by repeat (first|with_reducible exact Below.refl _ _|with_reducible assumption|with_reducible refine Below.setCell ?_ (by first|omega|simp) _|with_reducible refine Below.alloc ?_ (by first|omega | (simp;omega) | simp) _|with_reducible refine below_drewN ?_ _|with_reducible refine Below.drew ?_)⟩
end Go.Proofs.YtofhcgbihonckaaGreat
