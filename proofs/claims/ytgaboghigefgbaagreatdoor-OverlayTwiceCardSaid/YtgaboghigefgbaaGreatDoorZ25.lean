/- A map of pairs of a text and a number, used as a set. | The contract of Check of tree. | Contracts of tree: a property of a node. | The contract of Value of tree. -/
import Derived.Test.YtgaboghigefgbaaGreatDoorZ14
import Derived.Test.YtgaboghigefgbaaGreatDoorZ1
import Derived.DeepKeys4
import Derived.WideKeyElems
import Derived.WideKeyPair
import Derived.Maps.Keyed
import Derived.Maps.Own
import Derived.WalkLawsBesides
set_option linter.all false
set_option maxHeartbeats 8000000
namespace Go.Proofs.YtgaboghigefgbaaGreatDoor
open Go.Lib (hid)
open Go.RowKit Go.ChangeMaps
def Qsk(x:ByteArray × Int):Value:=.agg #[.string x.1,.int .i64 x.2]
def Qhn(x:ByteArray × Int):Prop:=x.1.size≤9223372036854775807∧-9223372036854775808≤x.2∧x.2≤9223372036854775807
theorem QRh:WideMaps.KeyLaw Tryz.prog 106:=deep_law_laid (by kernel_rfl) (m:=3) (by omega) (of_decide_eq_true (by kernel_rfl)) (by kernel_rfl) (by kernel_rfl)
theorem QRl{P:Program}{k s i:TypeId}{f0 f1:Field}(hu:P.underlying k=some (.struct #[f0,f1]))(hk:P.keyType k=true)(hc:P.cellsOf k=2)(hs:P.underlying s=some .string)(hi:P.underlying i=some (.int .i64))
 (H7 : P.cellsOf s = 1) (c8 : P.cellsOf i = 1) (h0 : f0.type = s) (h1 : f1.type = i) (o0 : f0.offset = 0) (o1 : f1.offset = 1) (n0 : (f0.name != "_") = true) (n1 : (f1.name != "_") = true) (hz : 1 ≤ P.types.size)
 (a:ByteArray) (b:Int) (ha:a.size≤maxLen) (hb:(Lit.int .i64 b).wf=true):∃l,keyOf P k (.agg #[.string a,.int .i64 b])=some l:=by
 obtain⟨m,hm⟩:∃m,P.types.size=m+1:=⟨P.types.size-1,by omega⟩
 rw[←Option.isSome_iff_exists]
 simp[keyOf,hu,hk,Value.formed,hc,Value.cells,hm,Program.keyLits,H7,c8,hs,hi,h0,h1,o0,o1,n0,n1,ha,hb]
theorem QQl(x:ByteArray × Int)(h:Qhn x):∃l,keyOf Tryz.prog 106 (Qsk x)=some l:=by
 obtain⟨h1,h2,h3⟩:=h
 have hw:(Lit.int .i64 x.2).wf=true:=by simp[Lit.wf,IntKind.min,IntKind.max,IntKind.signed,IntKind.bits];omega
 have hs:x.1.size≤maxLen:=by unfold maxLen;omega
 exact QRl Tryz.underlying106 (by kernel_rfl) (by kernel_rfl) Tryz.underlying9 Tryz.underlying3 (by kernel_rfl) (by kernel_rfl) rfl rfl rfl rfl (by decide) (by decide) (of_decide_eq_true (by kernel_rfl)) x.1 x.2 hs hw
theorem QTm{x y:ByteArray × Int}(h:Qsk x=Qsk y):x=y:=by
 unfold Qsk at h
 simp at h
 exact Prod.ext h.1 h.2
def QGe(w:World)(b:Nat)(S:List (ByteArray × Int)):Prop:=
 ∃es clock,w.heap[b]? = some (.map es clock)∧es.toList.map (·.key)=S.map Qsk∧(∀e∈es.toList,e.val = .bool true)∧(∀x∈S,Qhn x)
def Qds(S:List (ByteArray × Int))(x:ByteArray × Int):Bool:=S.any fun y=>eqS y.1 x.1 && decide (y.2=x.2)
theorem Qxj(S:List (ByteArray × Int))(x:ByteArray × Int):Qds S x=true↔x∈S:=by
 unfold Qds
 rw[List.any_eq_true]
 constructor
 ·rintro ⟨y,hy,h⟩
  simp only[Bool.and_eq_true,decide_eq_true_eq,Qxa]at h
  have:y=x:=Prod.ext h.1 h.2
  exact this ▸ hy
 ·intro h;exact⟨x,h,by simp[Qxa]⟩
theorem QGe.keys{w:World}{b:Nat}{S:List (ByteArray × Int)}{es:Array MapEntry}{clock:Nat}(_h:w.heap[b]? = some (.map es clock))(hk:es.toList.map (·.key)=S.map Qsk)(hS:∀x∈S,Qhn x) :
 ∀e∈es.toList,∃l,keyOf Tryz.prog 106 e.key=some l:=by
 intro e he
 have:e.key∈S.map Qsk:=by rw[←hk];exact List.mem_map.2 ⟨e,he,rfl⟩
 obtain⟨x,hx,e1⟩:=List.mem_map.1 this
 rw[←e1];exact QQl x (hS x hx)
theorem QGe.look{w:World}{b:Nat}{S:List (ByteArray × Int)}(h:QGe w b S)(x:ByteArray × Int)(hx:Qhn x) :
 (Instr.lookup 104 (.map (some b)) (Qsk x) false).run Tryz.prog w = .ok (.bool (Qds S x)) w:=by
 obtain⟨es,clock,hb,hk,hv,hS⟩:=h
 obtain⟨l,hl⟩:=QQl x hx
 have hz:(zeroValue 4).run Tryz.prog w = .ok (.bool false) w:=by kernel_rfl
 rcases QRh.find w hl es.toList (QGe.keys hb hk hS)with⟨h1,h2⟩|⟨j,e0,h1,h2,h3⟩
 ·have hm:Qds S x=false:=by
   rw[Bool.eq_false_iff]
   intro hc
   have mD:=(Qxj S x).1 hc
   have:Qsk x∈es.toList.map (·.key):=by rw[hk];exact List.mem_map.2 ⟨x,mD,rfl⟩
   obtain⟨e,he,e1⟩:=List.mem_map.1 this
   exact h2 e he e1
  rw[hm]
  simp[Instr.lookup,run_underlying Tryz.underlying104,MapKept.run_getObj_map hb,QRh.check w _ hl,h1,hz,Result.andThen]
 ·have hm:Qds S x=true:=by
   rw[Qxj]
   have:e0.key∈S.map Qsk:=by rw[←hk];exact List.mem_map.2 ⟨e0,List.mem_of_getElem? h2,rfl⟩
   obtain⟨y,hy,e1⟩:=List.mem_map.1 this
   rw[h3]at e1
   rw[←QTm e1];exact hy
  rw[hm]
  have Gc:=hv e0 (List.mem_of_getElem? h2)
  simp[Instr.lookup,run_underlying Tryz.underlying104,MapKept.run_getObj_map hb,QRh.check w _ hl,h1,Gc,Result.andThen]
theorem QGe.put{w:World}{b:Nat}{S:List (ByteArray × Int)}(h:QGe w b S)(x:ByteArray × Int)(hx:Qhn x)(hn:Qds S x=false) :
 ∃o,(Instr.mapUpdate 104 (.map (some b)) (Qsk x) (.bool true)).run Tryz.prog w = .ok () (setBlock w b o)∧QGe (setBlock w b o) b (S++[x]):=by
 obtain⟨es,clock,hb,hk,hv,hS⟩:=h
 obtain⟨l,hl⟩:=QQl x hx
 rcases QRh.find w hl es.toList (QGe.keys hb hk hS)with⟨h1,h2⟩|⟨j,e0,h1,h2,h3⟩
 ·refine⟨.map (es.push ⟨Qsk x,.bool true,clock⟩) (clock+1),?_,es.push ⟨Qsk x,.bool true,clock⟩,clock+1,heap_setBlock_same hb _,?_,?_,?_⟩
  ·simp[Instr.mapUpdate,run_underlying Tryz.underlying104,MapKept.run_getObj_map hb,QRh.check w false hl,h1,MapKept.run_setObj_map _ hb,Result.andThen,setBlock]
  ·simp[hk]
  ·intro e he
   simp only[Array.toList_push,List.mem_append,List.mem_singleton]at he
   rcases he with he|rfl
   ·exact hv e he
   ·rfl
  ·intro y hy
   rcases List.mem_append.1 hy with hy|hy
   ·exact hS y hy
   ·simp only[List.mem_singleton]at hy;subst hy;exact hx
 ·exfalso
  have:e0.key∈S.map Qsk:=by rw[←hk];exact List.mem_map.2 ⟨e0,List.mem_of_getElem? h2,rfl⟩
  obtain⟨y,hy,e1⟩:=List.mem_map.1 this
  rw[h3]at e1
  have:=(Qxj S x).2 (QTm e1 ▸ hy)
  rw[hn]at this;cases this
theorem QGe.block{w w':World}{b:Nat}{S:List (ByteArray × Int)}(h:QGe w b S)(e:w'.heap[b]? = w.heap[b]?):QGe w' b S:=by
 obtain⟨es,clock,hb,r⟩:=h
 exact⟨es,clock,by rw[e];exact hb,r⟩
theorem QGe.lt{w:World}{b:Nat}{S:List (ByteArray × Int)}(h:QGe w b S):b<w.heap.size:=by
 obtain⟨es,clock,hb,_⟩:=h;exact lt_of_block hb
theorem QGe.alloc{w:World}{b:Nat}{S:List (ByteArray × Int)}(h:QGe w b S)(o:Obj):QGe (w.alloc o) b S:=h.block (heap_alloc_old w o h.lt)
theorem Qif{B:Nat}{a w:World}{b:Nat}{o:Obj}(h:Below B a w)(hb:B≤b):Below B a (setBlock w b o):=
 ⟨h.os,h.tape,h.output,by simpa[setBlock]using h.size,fun i hi=>by
  rw[←h.block i hi];simp only[setBlock];exact Array.getElem?_setIfInBounds_ne (by omega)⟩
theorem Qof{w:World}{b g:Nat}{o:Obj}{cs:Array Value}{t:TypeId}(h:Holds w g cs t)(Hm:b≠g):Holds (setBlock w b o) g cs t:=by
 show _=_
 rw[←h.out];simp only[setBlock];exact Array.getElem?_setIfInBounds_ne Hm
end Go.Proofs.YtgaboghigefgbaaGreatDoor
namespace Go.Proofs.YtgaboghigefgbaaGreatDoor
open Go.Lib (hid)
open Go.RowKit
theorem QEn(n:Qba):(24<n.props.length∧QGf n=false)∨(n.props.length≤24∧n.props.any Qwl=true∧QGf n=false)∨(n.props.length≤24∧n.props.any Qwl=false∧QGf n=true):=by
 have e:n.props.all (fun p=>decide (p.value.size≤256)) = !n.props.any Qwl:=by
  rw[Bool.eq_iff_iff]
  simp[Qwl]
 unfold QGf
 rw[e]
 by_cases h:24<n.props.length
 ·left;simp;omega
 ·cases n.props.any Qwl
  ·right;right;simp;omega
  ·right;left;simp;omega
theorem QXg{T:List Qba}(h:T.length=0∨120<T.length):Qfa T=3:=by
 unfold Qfa Qza
 rw[decide_eq_false (by omega)];rfl
theorem QTi{T:List Qba}(h:T.all QGf=false):Qfa T=3:=by
 unfold Qfa Qza
 rw[h,Bool.and_false];rfl
theorem QWl{T:List Qba}(h0:1≤T.length)(h1:T.length≤120)(h:T.all QGf=true):Qza T=true:=by
 unfold Qza
 rw[h,decide_eq_true ⟨h0,h1⟩];rfl
theorem QLg(R:Nat→Prop)(v:Value)(T:List Qba)(w:World)(hT:Qpa R w v T) :
 Calls Tryz.prog 37 #[.agg #[v]] w fun e w'=>e = .returned (.int .i64 (Qfa T))∧Below w.heap.size w w':=by
 have My:=hT
 obtain⟨a,cap,rfl,gM,gB⟩:=hT.shape
 have HT:=hid hT;clear hT My
 by_cases hz:T.length=0
 ·have uw:((T.length:Int) == 0)=true:=by simp[hz]
  have hC:=hid (QXg (.inl hz))
  clear hz
  go_enter Tryz.func37,Tryz.ntmps37
  go_wp2_with fail
  go_ret
  exact⟨QUa (by rw[hC.out]),(Below.refl _ _).alloc (Nat.le_refl _) _⟩
 ·by_cases hbig:120<T.length
  ·have uw:((T.length:Int) == 0)=false:=by rw[beq_eq_false_iff_ne];omega
   have hC:=hid (QXg (.inr hbig))
   clear hz
   go_enter Tryz.func37,Tryz.ntmps37
   go_wp2_with fail
   go_ret
   exact⟨QUa (by rw[hC.out]),(Below.refl _ _).alloc (Nat.le_refl _) _⟩
  ·have uw:((T.length:Int) == 0)=false:=by rw[beq_eq_false_iff_ne];omega
   have Hp:1≤T.length:=by omega
   have gj:T.length≤120:=by omega
   clear hz hbig
   go_enter Tryz.func37,Tryz.ntmps37
   go_wp2_with fail
   go_loopg [23] (T.length) (fun f x wr=>∃k:Nat,x = .int .i64 k∧k≤T.length∧T.length≤k+f∧Hid (T.all QGf=(T.drop k).all QGf)∧Below w.heap.size w wr∧Holds wr w.heap.size #[.slice a T.length cap] 27)
   case atStart=>exact⟨0,rfl,by omega,by omega,by simp[Hid],(Below.refl _ _).alloc (Nat.le_refl _) _,Holds.new w _ _⟩
   case round=>
    obtain⟨k,rfl,hk,hf,hA,hb,hB⟩:=hrel
    have H3:=hb.size
    by_cases Hh:k<T.length
    ·obtain⟨g,o,pa,pc,rfl,hg,c0,c1,c2,hp,p1,p2,b0,b1,b2⟩:=(HT.out.new hb).at k Hh
     have jz:=hid hp;clear hp
     have gH:=hid (show(T.drop k).all QGf=(QGf T[k] && (T.drop (k+1)).all QGf)from by rw[List.drop_eq_getElem_cons Hh];rfl)
     rcases QEn T[k]with⟨Jn,kZ⟩|⟨Jn,Gh,kZ⟩|⟨Jn,Gh,kZ⟩
     ·have hF:=hid kZ;clear kZ
      go_wp2_with fail
      go_ret
      exact⟨QUa (by rw[QTi (by rw[hA.out,gH.out,hF.out];rfl)]),hb.alloc H3 _⟩
     ·have hF:=hid kZ;clear kZ
      have aM:=hid Gh;clear Gh
      go_wp2_with fail
      refine(QHd R _ T[k].props _ (by exact jz.out.new ((Below.refl wr.heap.size wr).alloc (Nat.le_refl _) _))).mono ?_
      rw[aM.out]
      rintro e w' ⟨rfl,hb'⟩
      go_wp2_with fail
      go_ret
      exact⟨QUa (by rw[QTi (by rw[hA.out,gH.out,hF.out];rfl)]),(hb.alloc H3 _).trans (hb'.mono (by simp;omega))⟩
     ·have hF:=hid kZ;clear kZ
      have aM:=hid Gh;clear Gh
      go_wp2_with fail
      refine(QHd R _ T[k].props _ (by exact jz.out.new ((Below.refl wr.heap.size wr).alloc (Nat.le_refl _) _))).mono ?_
      rw[aM.out]
      rintro e w' ⟨rfl,hb'⟩
      have td:=hB.lt
      have hB':=(hB.alloc (.cells #[.int .i64 T[k].parent,.string T[k].name,.slice pa T[k].props.length pc] 46)).keeps (Qaa.of_fresh hb' (fun _=>False)) (fun e=>e)
      go_wp2_with fail
      go_roundg (gk-1)
      case measure=>omega
      case rel=>exact⟨k+1,by go_num,by omega,by omega,by show _=_;rw[hA.out,gH.out,hF.out,Bool.true_and],(hb.alloc H3 _).trans (hb'.mono (by simp;omega)),hB'⟩
    ·have iu:=hid (QWl Hp gj (by rw[hA.out,List.drop_eq_nil_of_le (by omega)];rfl))
     have bx:=hB.cell 0
     clear hA
     have hL:Qza T=true:=iu.out
     clear iu
     cases Hv:QWa T with
     | false=>
      have hC:=hid (show Qfa T=1 from by unfold Qfa;rw[hL,Hv];rfl)
      have hN:=fun wx hx=>Q9i R (.slice a T.length cap) T wx hx
      rw[Hv]at hN
      have HN:=hid hN;clear hN
      clear Hv hL
      go_wp2_with fail
      refine(HN.out _ (by exact HT.out.new hb)).mono ?_
      rintro e w' ⟨rfl,hb'⟩
      go_wp2_with fail
      go_ret
      exact⟨QUa (by rw[hC.out]),hb.trans (hb'.mono H3)⟩
     | true=>
      have hN:=fun wx hx=>Q9i R (.slice a T.length cap) T wx hx
      rw[Hv]at hN
      have HN:=hid hN;clear hN
      have hW:=fun wx hx=>Qym R (.slice a T.length cap) T wx hx Hv (by omega)
      have Kd:=hid Hv
      have Ms:=hid hL
      go_wp2_with fail
      refine(HN.out _ (by exact HT.out.new hb)).mono ?_
      rintro e w2 ⟨rfl,Hc⟩
      have Hi:=hb.trans (Hc.mono H3)
      have Kg:=hB.keeps (Qaa.of_fresh Hc (fun _=>False)) (fun e=>e)
      have bx2:=Kg.cell 0
      cases M4:Qub T with
      | false=>
       have hC:=hid (show Qfa T=12 from by unfold Qfa;rw[hL,Hv,M4];rfl)
       rw[M4]at hW
       have HW:=hid hW;clear hW
       clear M4 Hv hL
       go_wp2_with fail
       refine(HW.out _ (by exact HT.out.new Hi)).mono ?_
       rintro e w' ⟨rfl,hb'⟩
       go_wp2_with fail
       go_ret
       exact⟨QUa (by rw[hC.out]),Hi.trans (hb'.mono Hi.size)⟩
      | true=>
       rw[M4]at hW
       have HW:=hid hW;clear hW
       have dK:=hid M4
       clear M4 Hv hL
       have hmm:=@run_makeMap Tryz.prog
       go_wp2_with fail
       refine(HW.out _ (by exact HT.out.new Hi)).mono ?_
       rintro e w4 ⟨rfl,Hu⟩
       have H9:=Hi.trans (Hu.mono Hi.size)
       have aw:=Kg.keeps (Qaa.of_fresh Hu (fun _=>False)) (fun e=>e)
       have bx4:=aw.cell 0
       have blt4:=aw.lt
       go_wp2_with fail
       go_loopg [47] (T.length) (fun f x wr=>∃(k:Nat) (S:List (ByteArray × Int)),x = .int .i64 k∧k≤T.length∧T.length≤k+f∧Hid (QIi T=QHi k S (T.drop k))∧(k=0→S=[])∧QGe wr w4.heap.size S∧Below w.heap.size w wr∧Holds wr w.heap.size #[.slice a T.length cap] 27)
       case atStart=>
        refine⟨0,[],rfl,by omega,by omega,rfl,fun _=>rfl,⟨#[],0,heap_alloc_new w4 _,rfl,?_,?_⟩,H9.alloc H9.size _,aw.alloc _⟩
        ·intro e he;simp at he
        ·intro x hx;simp at hx
       case round=>
        obtain⟨k,S,rfl,hk,hf,rt,Jr,hS,hb,hB⟩:=hrel
        have H3:=hb.size
        have BA:w.heap.size≤w4.heap.size:=H9.size
        have hmlt:=hS.lt
        by_cases Hh:k<T.length
        ·obtain⟨g,o,pa,pc,rfl,hg,c0,c1,c2,hp,p1,p2,b0,b1,b2⟩:=(HT.out.new hb).at k Hh
         have Hk:=hid (show QHi k S (T.drop k)=((decide (0<k) && Qds S (T[k].name,T[k].parent)) || QHi (k+1) (S++[(T[k].name,T[k].parent)]) (T.drop (k+1)))from by rw[List.drop_eq_getElem_cons Hh];rfl)
         have yD:Qhn (T[k].name,T[k].parent):=⟨b0,b1,b2⟩
         have gh:=(hS.alloc (.cells #[.int .i64 T[k].parent,.string T[k].name,.slice pa T[k].props.length pc] 46)).alloc (.cells #[.string T[k].name,.int .i64 T[k].parent] 106)
         have gG:=(hb.alloc H3 (.cells #[.int .i64 T[k].parent,.string T[k].name,.slice pa T[k].props.length pc] 46)).alloc (by simp;omega) (.cells #[.string T[k].name,.int .i64 T[k].parent] 106)
         have Jp:=(hB.alloc (.cells #[.int .i64 T[k].parent,.string T[k].name,.slice pa T[k].props.length pc] 46)).alloc (.cells #[.string T[k].name,.int .i64 T[k].parent] 106)
         have Jy:=gh.look (T[k].name,T[k].parent) yD
         unfold Qsk at Jy
         clear hp
         by_cases GF:0<k
         ·have eR:decide (0<k)=true:=by simpa using GF
          cases hm:Qds S (T[k].name,T[k].parent)with
          | true=>
           rw[hm]at Jy
           have hC:=hid (show Qfa T=5 from by
            unfold Qfa;rw[Ms.out,Kd.out,dK.out,rt.out,Hk.out,hm,eR];rfl)
           clear hm
           go_wp2_with fail
           go_ret
           exact⟨QUa (by rw[hC.out]),gG⟩
          | false=>
           rw[hm]at Jy
           obtain⟨ob,Kt,MT⟩:=gh.put (T[k].name,T[k].parent) yD hm
           unfold Qsk at Kt
           have HM:=hid hm
           clear hm
           go_wp2_with fail
           go_roundg (gk-1)
           case measure=>omega
           case rel=>
            exact⟨k+1,_,by go_num,by omega,by omega,by show _=_;rw[rt.out,Hk.out,HM.out];simp,by omega,MT,Qif gG BA,Qof Jp (by have:=aw.lt;omega)⟩
         ·have ac:k=0:=by omega
          have lV:=Jr ac
          subst lV
          have eR:decide (0<k)=false:=by simpa using GF
          obtain⟨ob,Kt,MT⟩:=gh.put (T[k].name,T[k].parent) yD rfl
          unfold Qsk at Kt
          have HK:=hid ac
          clear Jy ac
          go_wp2_with fail
          go_roundg (gk-1)
          case measure=>omega
          case rel=>
           exact⟨k+1,_,by go_num,by omega,by omega,by show _=_;rw[rt.out,Hk.out,eR];simp,by omega,MT,Qif gG BA,Qof Jp (by have:=aw.lt;omega)⟩
        ·have ru:=hid (show QIi T=false from by rw[rt.out,List.drop_eq_nil_of_le (by omega)];rfl)
         have bx5:=hB.cell 0
         have blt5:=hB.lt
         clear rt hS
         go_wp2_with fail
         go_loopg [70] (T.length) (fun f x wx=>∃j:Nat,x = .int .i64 j∧j≤T.length∧T.length≤j+f∧Hid (∀i,i<j→QAs T i≤8)∧Below w.heap.size w wx∧Holds wx w.heap.size #[.slice a T.length cap] 27)
         case atStart=>exact⟨0,rfl,by omega,by omega,fun i h=>absurd h (by omega),hb,hB⟩
         case round=>
          obtain⟨j,rfl,hj,Jv,hD,gZ,lE⟩:=hrel
          have rK:=gZ.size
          have bx7:=lE.cell 0
          have blt7:=lE.lt
          by_cases Gd:j<T.length
          ·have io:=fun wx hx=>Q8i R (.slice a T.length cap) T j wx hx Kd.out (by omega) (by omega) (by omega)
           have pw:=hid (show QAs T j=Q6b T T.length j from rfl)
           generalize Q6b T T.length (j:Int)=d at io pw
           have zT:=hid io;clear io
           by_cases hd8:8<d
           ·have hC:=hid (show Qfa T=2 from by
             have:QPd T=true:=by
              unfold QPd
              rw[List.any_eq_true]
              exact⟨j,List.mem_range.2 Gd,by rw[pw.out];simpa using hd8⟩
             unfold Qfa;rw[Ms.out,Kd.out,dK.out,ru.out,this];rfl)
            go_wp2_with fail
            refine(zT.out _ (by exact HT.out.new gZ)).mono ?_
            rintro e w' ⟨rfl,hb'⟩
            go_wp2_with fail
            go_ret
            exact⟨QUa (by rw[hC.out]),gZ.trans (hb'.mono rK)⟩
           ·have xW:d≤8:=by omega
            go_wp2_with fail
            refine(zT.out _ (by exact HT.out.new gZ)).mono ?_
            rintro e w' ⟨rfl,hb'⟩
            have oT:=lE.keeps (Qaa.of_fresh hb' (fun _=>False)) (fun e=>e)
            go_wp2_with fail
            go_roundg (gk-1)
            case measure=>omega
            case rel=>
             refine⟨j+1,by go_num,by omega,by omega,?_,gZ.trans (hb'.mono rK),oT⟩
             intro i hi
             by_cases kt:i=j
             ·subst kt;rw[pw.out];exact xW
             ·exact hD i (by omega)
          ·have hC:=hid (show Qfa T=0 from by
            have:QPd T=false:=by
             unfold QPd
             rw[Bool.eq_false_iff,Ne,List.any_eq_true]
             rintro ⟨i,hi,h8⟩
             have:=hD.out i (by have:=List.mem_range.1 hi;omega)
             simp at h8
             omega
            unfold Qfa;rw[Ms.out,Kd.out,dK.out,ru.out,this];rfl)
           go_wp2_with fail
           go_ret
           exact⟨QUa (by rw[hC.out]),gZ⟩
theorem Q9j(a:ByteArray)(w:World):Calls Tryz.prog 108 #[.string a] w fun e w'=>e = .returned (.bool false)∧w=w':=by
 go_enter Tryz.func108,Tryz.ntmps108
 go_wp2_with fail
 go_ret
 exact⟨Qha (by simp),rfl⟩
theorem Qfe(a b:ByteArray)(w:World):Calls Tryz.prog 79 #[.string a,.string b] w fun e w'=>e = .returned (.int .i64 (Qdc a b))∧w=w':=by
 have n1:=fun wx=>Q9j a wx
 have n2:=fun wx=>Q9j b wx
 have N1:=hid n1;clear n1
 have N2:=hid n2;clear n2
 cases h1:Op.bytesLess a.toList b.toList with
 | true=>
  have hC:=hid (show Qdc a b = -1 from by unfold Qdc;rw[if_pos (show ltS a b=true from h1)])
  go_enter Tryz.func79,Tryz.ntmps79
  go_wp2_with fail
  refine(N1.out _).mono ?_
  rintro e w' ⟨rfl,rfl⟩
  go_wp2_with fail
  refine(N2.out _).mono ?_
  rintro e w' ⟨rfl,rfl⟩
  go_wp2_with fail
  go_ret
  exact⟨QUa (by rw[hC.out]),rfl⟩
 | false=>
  cases h2:(a.toList == b.toList)with
  | true=>
   have hC:=hid (show Qdc a b=0 from by unfold Qdc;rw[if_neg (by rw[show ltS a b=false from h1];simp),if_pos (show eqS a b=true from h2)])
   go_enter Tryz.func79,Tryz.ntmps79
   go_wp2_with fail
   refine(N1.out _).mono ?_
   rintro e w' ⟨rfl,rfl⟩
   go_wp2_with fail
   refine(N2.out _).mono ?_
   rintro e w' ⟨rfl,rfl⟩
   go_wp2_with fail
   go_ret
   exact⟨QUa (by rw[hC.out]),rfl⟩
  | false=>
   have hC:=hid (show Qdc a b=1 from by unfold Qdc;rw[if_neg (by rw[show ltS a b=false from h1];simp),if_neg (by rw[show eqS a b=false from h2];simp)])
   go_enter Tryz.func79,Tryz.ntmps79
   go_wp2_with fail
   refine(N1.out _).mono ?_
   rintro e w' ⟨rfl,rfl⟩
   go_wp2_with fail
   refine(N2.out _).mono ?_
   rintro e w' ⟨rfl,rfl⟩
   go_wp2_with fail
   go_ret
   exact⟨QUa (by rw[hC.out]),rfl⟩
theorem Qxf(p:Qla)(x:ByteArray)(w:World):Calls Tryz.prog 154 #[.agg #[.string p.name,.string p.value],.string x] w fun e w'=>e = .returned (.int .i64 (Qdc p.name x))∧Below w.heap.size w w':=by
 go_enter Tryz.func154,Tryz.ntmps154
 go_wp2_with fail
 refine(Qfe p.name x _).mono ?_
 rintro e w' ⟨rfl,rfl⟩
 go_wp2_with fail
 go_ret
 exact⟨rfl,(Below.refl _ _).alloc (Nat.le_refl _) _⟩
theorem Q6g:∀args w,(callFunc 154 args).run Tryz.prog w = .ok (.enter 154 args) w:=enters_of Tryz.func154 (by kernel_rfl) rfl
theorem QPk(R:Nat→Prop)(v:Value)(ps:List Qla)(x:ByteArray)(w:World)(hP:QGa R w v ps)(ha:Qtd ps=true)(hl:ps.length≤1000) :
 Calls Tryz.prog 153 #[v,.string x,.func (.func 154) #[] #[]] w
  fun e w'=>e = .returned (.tuple #[.int .i64 (Qfb ps x),.bool (QKc ps x)])∧Below w.heap.size w w':=by
 obtain⟨a,cap,rfl,gM,gB⟩:=hP.shape
 have HP:=hid hP;clear hP
 have HA:=hid ha;clear ha
 have eg:=Q6g
 go_enter Tryz.func153,Tryz.ntmps153
 go_wp2_with fail
 go_loopg [9,10] (ps.length) (fun f y z wr=>∃i j:Nat,y = .int .i64 i∧z = .int .i64 j∧i≤j∧j≤ps.length∧j≤i+f∧Hid (∀k (h:k<ps.length),k<i→ltS ps[k].name x=true)∧Hid (∀k (h:k<ps.length),j≤k→ltS ps[k].name x=false)∧Below w.heap.size w wr)
 case atStart=>exact⟨0,ps.length,rfl,rfl,by omega,by omega,by omega,fun k h h2=>absurd h2 (by omega),fun k h h2=>absurd h (by omega),Below.refl _ _⟩
 case round=>
  obtain⟨i,j,rfl,rfl,kt,hj,hf,sZ,sw,hb⟩:=hrel
  have H3:=hb.size
  by_cases Hh:i<j
  ·have hm:(i+j) / 2<ps.length:=by omega
   obtain⟨g,o,rfl,hg,c0,c1,b0,b1⟩:=(HP.out.new hb).at ((i+j) / 2) hm
   have Kn:=fun wx=>Qxf (ps[(i+j) / 2]) x wx
   have Km:(ltS (ps[(i+j) / 2]).name x=true∧Qdc (ps[(i+j) / 2]).name x<0)∨(ltS (ps[(i+j) / 2]).name x=false∧0≤Qdc (ps[(i+j) / 2]).name x):=by
    unfold Qdc
    cases ltS (ps[(i+j) / 2]).name x
    ·right;simp;split <;> omega
    ·left;simp
   rcases Km with⟨GO,Ge⟩|⟨GO,Ge⟩
   ·have HL:=hid GO;clear GO
    generalize Qdc (ps[(i+j) / 2]).name x=r at Kn Ge
    have HC:=hid Kn;clear Kn
    go_wp2_with fail
    refine(HC.out _).mono ?_
    rintro e w' ⟨rfl,hb'⟩
    go_wp2_with fail
    go_roundg (gk-1)
    case measure=>omega
    case rel=>
     refine⟨(i+j) / 2+1,j,by go_num,rfl,by omega,hj,by omega,?_,sw,hb.trans (hb'.mono H3)⟩
     intro k hk gJ
     by_cases e:k=(i+j) / 2
     ·subst e;exact HL.out
     ·exact Q3b (QEm ps HA.out k ((i+j) / 2) hk hm (by omega)) HL.out
   ·have HL:=hid GO;clear GO
    generalize Qdc (ps[(i+j) / 2]).name x=r at Kn Ge
    have HC:=hid Kn;clear Kn
    go_wp2_with fail
    refine(HC.out _).mono ?_
    rintro e w' ⟨rfl,hb'⟩
    go_wp2_with fail
    go_roundg (gk-1)
    case measure=>omega
    case rel=>
     refine⟨i,(i+j) / 2,rfl,by go_num,by omega,by omega,by omega,sZ,?_,hb.trans (hb'.mono H3)⟩
     intro k hk gJ
     by_cases e:k=(i+j) / 2
     ·subst e;exact HL.out
     ·rw[Bool.eq_false_iff]
      intro hc
      have:=Q3b (QEm ps HA.out ((i+j) / 2) k hm hk (by omega)) hc
      rw[HL.out]at this;cases this
  ·have bW:=hid (show Qfb ps x=i from Q8k _ ps i (by omega) (fun k h h2=>sZ.out k h h2) (fun h=>sw.out i h (by omega)))
   by_cases hi:i<ps.length
   ·obtain⟨g,o,rfl,hg,c0,c1,b0,b1⟩:=(HP.out.new hb).at i hi
    have Kn:=fun wx=>Qxf ps[i] x wx
    have Gz:=hid (show QKc ps x=eqS ps[i].name x from by unfold QKc;rw[bW.out,List.getElem?_eq_getElem hi])
    have mQ:=sw.out i hi (by omega)
    have Km:(eqS ps[i].name x=true∧(Qdc ps[i].name x == 0)=true)∨(eqS ps[i].name x=false∧(Qdc ps[i].name x == 0)=false):=by
     unfold Qdc
     rw[mQ]
     cases eqS ps[i].name x <;> simp
    clear sZ sw mQ
    rcases Km with⟨GO,Ge⟩|⟨GO,Ge⟩
    ·have HL:=hid GO;clear GO
     generalize Qdc ps[i].name x=r at Kn Ge
     have HC:=hid Kn;clear Kn
     go_wp2_with fail
     refine(HC.out _).mono ?_
     rintro e w' ⟨rfl,hb'⟩
     go_wp2_with fail
     go_ret2
     exact⟨by rw[bW.out,Gz.out,HL.out];rfl,hb.trans (hb'.mono H3)⟩
    ·have HL:=hid GO;clear GO
     generalize Qdc ps[i].name x=r at Kn Ge
     have HC:=hid Kn;clear Kn
     go_wp2_with fail
     refine(HC.out _).mono ?_
     rintro e w' ⟨rfl,hb'⟩
     go_wp2_with fail
     go_ret2
     exact⟨by rw[bW.out,Gz.out,HL.out];rfl,hb.trans (hb'.mono H3)⟩
   ·have Gz:=hid (show QKc ps x=false from by unfold QKc;rw[bW.out,List.getElem?_eq_none (by omega)])
    clear sZ sw
    go_wp2_with fail
    go_ret2
    exact⟨by rw[bW.out,Gz.out];rfl,hb⟩
theorem Qmg(R:Nat→Prop)(pv:Value)(n:Qba)(x:ByteArray)(w:World)(hP:QGa R w pv n.props)(ha:Qtd n.props=true)(hl:n.props.length≤1000) :
 Calls Tryz.prog 114 #[.agg #[.int .i64 n.parent,.string n.name,pv],.string x] w fun e w'=>e = .returned (.tuple #[.int .i64 (Qfb n.props x),.bool (QKc n.props x)])∧Below w.heap.size w w':=by
 obtain⟨a,cap,rfl,gM,gB⟩:=hP.shape
 have hs:=fun wx hx=>QPk R (.slice a n.props.length cap) n.props x wx hx ha hl
 generalize Qfb n.props x=y at hs
 generalize QKc n.props x=z at hs
 have HS:=hid hs;clear hs
 have HP:=hid hP;clear hP
 clear ha
 go_enter Tryz.func114,Tryz.ntmps114
 go_wp2_with fail
 refine(HS.out _ (by exact HP.out.new ((Below.refl w.heap.size w).alloc (Nat.le_refl _) _))).mono ?_
 rintro e w' ⟨rfl,hb⟩
 go_wp2_with fail
 go_ret2
 exact⟨rfl,((Below.refl _ _).alloc (Nat.le_refl _) _).trans (hb.mono (by simp))⟩
end Go.Proofs.YtgaboghigefgbaaGreatDoor
