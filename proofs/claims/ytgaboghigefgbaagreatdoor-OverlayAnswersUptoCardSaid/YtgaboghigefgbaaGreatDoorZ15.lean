/- Lemmas on the way to the law; no conditions. -/
import Derived.Test.YtgaboghigefgbaaGreatDoorZ14
import Derived.DeepKeys4
import Derived.WideKeyElems
import Derived.WideKeyPair
import Derived.Maps.Keyed
import Derived.Maps.Own
set_option linter.all false
set_option maxHeartbeats 8000000
namespace Go.Proofs.YtgaboghigefgbaaGreatDoor
open Go.Proofs.Tryz
open Go.Lib (hid)
section
open Go.RowKit Go.ChangeMaps
def QCk(x:ByteArray × Int):Value:=.agg #[.string x.1,.int .i64 x.2]
def Qun(x:ByteArray × Int):Prop:=x.1.size≤9223372036854775807∧-9223372036854775808≤x.2∧x.2≤9223372036854775807
theorem QMh:WideMaps.KeyLaw prog 106:=deep_law_laid (by kernel_rfl) (m:=3) (by omega) (of_decide_eq_true (by kernel_rfl)) (by kernel_rfl) (by kernel_rfl)
theorem Q0l{P:Program}{k s i:TypeId}{f0 f1:Field}(hu:P.underlying k=some (.struct #[f0,f1]))(hk:P.keyType k=true)(hc:P.cellsOf k=2)(hs:P.underlying s=some .string)(hi:P.underlying i=some (.int .i64))
 (Hw : P.cellsOf s = 1) (KY : P.cellsOf i = 1) (h0 : f0.type = s) (h1 : f1.type = i) (o0 : f0.offset = 0) (o1 : f1.offset = 1) (n0 : (f0.name != "_") = true) (n1 : (f1.name != "_") = true) (hz : 1 ≤ P.types.size)
 (a:ByteArray) (b:Int) (ha:a.size≤maxLen) (hb:(Lit.int .i64 b).wf=true):∃l,keyOf P k (.agg #[.string a,.int .i64 b])=some l:=by
 obtain⟨m,hm⟩:∃m,P.types.size=m+1:=⟨P.types.size-1,by omega⟩;rw[←Option.isSome_iff_exists];simp[keyOf,hu,hk,Value.formed,hc,Value.cells,hm,Program.keyLits,Hw,KY,hs,hi,h0,h1,o0,o1,n0,n1,ha,hb]
theorem QZl(x:ByteArray × Int)(h:Qun x):∃l,keyOf prog 106 (QCk x)=some l:=by
 obtain⟨h1,h2,h3⟩:=h;have hw:(Lit.int .i64 x.2).wf=true:=by simp[Lit.wf,IntKind.min,IntKind.max,IntKind.signed,IntKind.bits];omega
 have hs:x.1.size≤maxLen:=by unfold maxLen;omega
 exact Q0l underlying106 (by kernel_rfl) (by kernel_rfl) underlying9 underlying3 (by kernel_rfl) (by kernel_rfl) rfl rfl rfl rfl (by decide) (by decide) (of_decide_eq_true (by kernel_rfl)) x.1 x.2 hs hw
theorem Q3m{x y:ByteArray × Int}(h:QCk x=QCk y):x=y:=by
 unfold QCk at h;simp at h;exact Prod.ext h.1 h.2
def Qse(w:World)(b:Nat)(S:List (ByteArray × Int)):Prop:=
 ∃es clock,w.heap[b]? = some (.map es clock)∧es.toList.map (·.key)=S.map QCk∧(∀e∈es.toList,e.val=.bool true)∧(∀x∈S,Qun x)
def QEs(S:List (ByteArray × Int))(x:ByteArray × Int):Bool:=S.any fun y=>eqS y.1 x.1&&decide (y.2=x.2)
theorem QIj(S:List (ByteArray × Int))(x:ByteArray × Int):QEs S x=true↔x∈S:=by
 unfold QEs;rw[List.any_eq_true];constructor
 ·rintro⟨y,hy,h⟩;simp only[Bool.and_eq_true,decide_eq_true_eq,QCa]at h;have:y=x:=Prod.ext h.1 h.2;exact this ▸ hy
 intro h;exact⟨x,h,by simp[QCa]⟩
theorem Qse.keys{w:World}{b:Nat}{S:List (ByteArray × Int)}{es:Array MapEntry}{clock:Nat}(_h:w.heap[b]? = some (.map es clock))(hk:es.toList.map (·.key)=S.map QCk)(hS:∀x∈S,Qun x) :
 ∀e∈es.toList,∃l,keyOf prog 106 e.key=some l:=by
 intro e he;have:e.key∈S.map QCk:=by rw[←hk];exact List.mem_map.2 ⟨e,he,rfl⟩
 obtain⟨x,hx,e1⟩:=List.mem_map.1 this;rw[←e1];exact QZl x (hS x hx)
theorem Qse.look{w:World}{b:Nat}{S:List (ByteArray × Int)}(h:Qse w b S)(x:ByteArray × Int)(hx:Qun x) :
 (Instr.lookup 104 (.map (some b)) (QCk x) false).run prog w=.ok (.bool (QEs S x)) w:=by
 obtain⟨es,clock,hb,hk,hv,hS⟩:=h;obtain⟨l,hl⟩:=QZl x hx;have hz:(zeroValue 4).run prog w=.ok (.bool false) w:=by kernel_rfl
 rcases QMh.find w hl es.toList (Qse.keys hb hk hS)with⟨h1,h2⟩|⟨j,e0,h1,h2,h3⟩
 ·have hm:QEs S x=false:=by
   rw[Bool.eq_false_iff];intro hc;have KF:=(QIj S x).1 hc;have:QCk x∈es.toList.map (·.key):=by rw[hk];exact List.mem_map.2 ⟨x,KF,rfl⟩
   obtain⟨e,he,e1⟩:=List.mem_map.1 this;exact h2 e he e1
  rw[hm];simp[Instr.lookup,run_underlying underlying104,MapKept.run_getObj_map hb,QMh.check w _ hl,h1,hz,Result.andThen]
 have hm:QEs S x=true:=by
  rw[QIj];have:e0.key∈S.map QCk:=by rw[←hk];exact List.mem_map.2 ⟨e0,List.mem_of_getElem? h2,rfl⟩
  obtain⟨y,hy,e1⟩:=List.mem_map.1 this;rw[h3]at e1;rw[←Q3m e1];exact hy
 rw[hm];have Gg:=hv e0 (List.mem_of_getElem? h2);simp[Instr.lookup,run_underlying underlying104,MapKept.run_getObj_map hb,QMh.check w _ hl,h1,Gg,Result.andThen]
theorem Qse.put{w:World}{b:Nat}{S:List (ByteArray × Int)}(h:Qse w b S)(x:ByteArray × Int)(hx:Qun x)(hn:QEs S x=false) :
 ∃o,(Instr.mapUpdate 104 (.map (some b)) (QCk x) (.bool true)).run prog w=.ok () (setBlock w b o)∧Qse (setBlock w b o) b (S++[x]):=by
 obtain⟨es,clock,hb,hk,hv,hS⟩:=h;obtain⟨l,hl⟩:=QZl x hx;rcases QMh.find w hl es.toList (Qse.keys hb hk hS)with⟨h1,h2⟩|⟨j,e0,h1,h2,h3⟩
 ·refine⟨.map (es.push ⟨QCk x,.bool true,clock⟩) (clock+1),?_,es.push ⟨QCk x,.bool true,clock⟩,clock+1,heap_setBlock_same hb _,?_,?_,?_⟩
  ·simp[Instr.mapUpdate,run_underlying underlying104,MapKept.run_getObj_map hb,QMh.check w false hl,h1,MapKept.run_setObj_map _ hb,Result.andThen,setBlock]
  ·simp[hk]
  ·intro e he;simp only[Array.toList_push,List.mem_append,List.mem_singleton]at he;rcases he with he|rfl
   ·exact hv e he
   rfl
  intro y hy;rcases List.mem_append.1 hy with hy|hy
  ·exact hS y hy
  simp only[List.mem_singleton]at hy;subst hy;exact hx
 exfalso;have:e0.key∈S.map QCk:=by rw[←hk];exact List.mem_map.2 ⟨e0,List.mem_of_getElem? h2,rfl⟩
 obtain⟨y,hy,e1⟩:=List.mem_map.1 this;rw[h3]at e1;have:=(QIj S x).2 (Q3m e1 ▸ hy);rw[hn]at this;cases this
theorem Qse.block{w w':World}{b:Nat}{S:List (ByteArray × Int)}(h:Qse w b S)(e:w'.heap[b]? = w.heap[b]?):Qse w' b S:=by
 obtain⟨es,clock,hb,r⟩:=h;exact⟨es,clock,by rw[e];exact hb,r⟩
theorem Qse.lt{w:World}{b:Nat}{S:List (ByteArray × Int)}(h:Qse w b S):b<w.heap.size:=by
 obtain⟨es,clock,hb,_⟩:=h;exact lt_of_block hb
theorem Qse.alloc{w:World}{b:Nat}{S:List (ByteArray × Int)}(h:Qse w b S)(o:Obj):Qse (w.alloc o) b S:=h.block (heap_alloc_old w o h.lt)
theorem Q2e{B:Nat}{a w:World}{b:Nat}{o:Obj}(h:Below B a w)(hb:B≤b):Below B a (setBlock w b o):=
 ⟨h.os,h.tape,h.output,by simpa[setBlock]using h.size,fun i hi=>by
  rw[←h.block i hi];simp only[setBlock];exact Array.getElem?_setIfInBounds_ne (by omega)⟩
theorem Qdf{w:World}{b g:Nat}{o:Obj}{cs:Array Value}{t:TypeId}(h:Holds w g cs t)(Hl:b≠g):Holds (setBlock w b o) g cs t:=by
 show _=_;rw[←h.o];simp only[setBlock];exact Array.getElem?_setIfInBounds_ne Hl
end
section
open Go.RowKit
theorem QKn(n:Qba):(24<n.props.length∧Qbf n=false)∨(n.props.length≤24∧n.props.any QHl=true∧Qbf n=false)∨(n.props.length≤24∧n.props.any QHl=false∧Qbf n=true):=by
 have e:n.props.all (fun p=>decide (p.value.size≤256)) = !n.props.any QHl:=by
  rw[Bool.eq_iff_iff];simp[QHl]
 unfold Qbf;rw[e];by_cases h:24<n.props.length
 ·left;simp;omega
 cases n.props.any QHl
 ·right;right;simp;omega
 right;left;simp;omega
theorem QTg{T:List Qba}(h:T.length=0∨120<T.length):Qia T=3:=by
 unfold Qia Qza;rw[decide_eq_false (by omega)];rfl
theorem QVi{T:List Qba}(h:T.all Qbf=false):Qia T=3:=by
 unfold Qia Qza;rw[h,Bool.and_false];rfl
theorem Q7l{T:List Qba}(h0:1≤T.length)(h1:T.length≤120)(h:T.all Qbf=true):Qza T=true:=by
 unfold Qza;rw[h,decide_eq_true ⟨h0,h1⟩];rfl
theorem QFg(R:Nat→Prop)(v:Value)(T:List Qba)(w:World)(hT:Qoa R w v T) :
 Calls prog 37 #[.agg #[v]] w fun e w'=>e=.returned (.int .i64 (Qia T))∧Below w.heap.size w w':=by
 have Ki:=hT;obtain⟨a,cap,rfl,gy,gh⟩:=hT.shape;have HT:=hid hT;clear hT Ki;by_cases hz:T.length=0
 ·have vS:((T.length:Int)==0)=true:=by simp[hz]
  have hC:=hid (QTg (.inl hz));clear hz;go_enter func37,ntmps37;go_wp2_with fail;go_ret;exact⟨QXa (by rw[hC.o]),Bq⟩
 by_cases hbig:120<T.length
 ·have vS:((T.length:Int)==0)=false:=by rw[beq_eq_false_iff_ne];omega
  have hC:=hid (QTg (.inr hbig));clear hz;go_enter func37,ntmps37;go_wp2_with fail;go_ret;exact⟨QXa (by rw[hC.o]),Bq⟩
 have vS:((T.length:Int)==0)=false:=by rw[beq_eq_false_iff_ne];omega
 have Ho:1≤T.length:=by omega
 have H4:T.length≤120:=by omega
 clear hz hbig;go_enter func37,ntmps37;go_wp2_with fail;go_loopg [23] (T.length) (fun f x wr=>∃k:Nat,x=.int .i64 k∧k≤T.length∧T.length≤k+f∧Hid (T.all Qbf=(T.drop k).all Qbf)∧Below w.heap.size w wr∧Holds wr w.heap.size #[.slice a T.length cap] 27)
 case atStart=>exact⟨0,rfl,by omega,by omega,by simp[Hid],Bq,Holds.new w _ _⟩
 case round=>
  obtain⟨k,rfl,hk,hf,hA,hb,hB⟩:=hrel;have Hy:=hb.size;by_cases Hh:k<T.length
  ·obtain⟨g,o,pa,pc,rfl,hg,c0,c1,c2,hp,p1,p2,b0,b1,b2⟩:=(HT.o.new hb).at k Hh;have M1:=hid hp;clear hp;have gH:=hid (show(T.drop k).all Qbf=(Qbf T[k]&&(T.drop (k+1)).all Qbf)from by rw[List.drop_eq_getElem_cons Hh];rfl);rcases QKn T[k]with⟨jE,Ka⟩|⟨jE,Gc,Ka⟩|⟨jE,Gc,Ka⟩
   ·have hF:=hid Ka;clear Ka;go_wp2_with fail;go_ret;exact⟨QXa (by rw[QVi (by rw[hA.o,gH.o,hF.o];rfl)]),hb.alloc Hy _⟩
   ·have hF:=hid Ka;clear Ka;have JO:=hid Gc;clear Gc;go_wp2_with fail;refine(Qwd R _ T[k].props _ (by exact M1.o.new ((Below.refl wr.heap.size wr).alloc (Nat.le_refl _) _))).mono ?_;rw[JO.o];rintro e w' ⟨rfl,hb'⟩;go_wp2_with fail;go_ret;exact⟨QXa (by rw[QVi (by rw[hA.o,gH.o,hF.o];rfl)]),(hb.alloc Hy _).trans (hb'.mono (by simp;omega))⟩
   have hF:=hid Ka;clear Ka;have JO:=hid Gc;clear Gc;go_wp2_with fail;refine(Qwd R _ T[k].props _ (by exact M1.o.new ((Below.refl wr.heap.size wr).alloc (Nat.le_refl _) _))).mono ?_;rw[JO.o];rintro e w' ⟨rfl,hb'⟩;have dC:=hB.lt;have hB':=(hB.alloc (.cells #[.int .i64 T[k].parent,.string T[k].name,.slice pa T[k].props.length pc] 46)).fr hb';go_wp2_with fail;go_roundg (gk-1)
   case measure=>omega
   case rel=>exact⟨k+1,by go_num,by omega,by omega,by show _=_;rw[hA.o,gH.o,hF.o,Bool.true_and],(hb.alloc Hy _).trans (hb'.mono (by simp;omega)),hB'⟩
  have eD:=hid (Q7l Ho H4 (by rw[hA.o,List.drop_eq_nil_of_le (by omega)];rfl));have bx:=hB.cell 0;clear hA;have hL:Qza T=true:=eD.o;clear eD;cases Ht:Q3a T with
  | false=>
   have hC:=hid (show Qia T=1 from by unfold Qia;rw[hL,Ht];rfl);have hN:=fun wx hx=>Qfj R (.slice a T.length cap) T wx hx;rw[Ht]at hN;have HN:=hid hN;clear hN;clear Ht hL;go_wp2_with fail;refine(HN.o _ (by exact HT.o.new hb)).mono ?_;rintro e w' ⟨rfl,hb'⟩;go_wp2_with fail;go_ret;exact⟨QXa (by rw[hC.o]),hb.trans (hb'.mono Hy)⟩
  | true=>
   have hN:=fun wx hx=>Qfj R (.slice a T.length cap) T wx hx;rw[Ht]at hN;have HN:=hid hN;clear hN;have hW:=fun wx hx=>QEm R (.slice a T.length cap) T wx hx Ht (by omega);have Kg:=hid Ht;have Ma:=hid hL;go_wp2_with fail;refine(HN.o _ (by exact HT.o.new hb)).mono ?_;rintro e w2 ⟨rfl,Hc⟩;have Hg:=hb.trans (Hc.mono Hy);have K8:=hB.fr Hc;have bx2:=K8.cell 0;cases Ms:Qxb T with
   | false=>
    have hC:=hid (show Qia T=12 from by unfold Qia;rw[hL,Ht,Ms];rfl);rw[Ms]at hW;have HW:=hid hW;clear hW;clear Ms Ht hL;go_wp2_with fail;refine(HW.o _ (by exact HT.o.new Hg)).mono ?_;rintro e w' ⟨rfl,hb'⟩;go_wp2_with fail;go_ret;exact⟨QXa (by rw[hC.o]),Hg.trans (hb'.mono Hg.size)⟩
   | true=>
    rw[Ms]at hW;have HW:=hid hW;clear hW;have cC:=hid Ms;clear Ms Ht hL;have lG:=@run_makeMap prog;go_wp2_with fail;refine(HW.o _ (by exact HT.o.new Hg)).mono ?_;rintro e w4 ⟨rfl,Hu⟩;have H5:=Hg.trans (Hu.mono Hg.size);have Jx:=K8.fr Hu;have bx4:=Jx.cell 0;have blt4:=Jx.lt;go_wp2_with fail;go_loopg [47] (T.length) (fun f x wr=>∃(k:Nat) (S:List (ByteArray × Int)),x=.int .i64 k∧k≤T.length∧T.length≤k+f∧Hid (QFi T=QEi k S (T.drop k))∧(k=0→S=[])∧Qse wr w4.heap.size S∧Below w.heap.size w wr∧Holds wr w.heap.size #[.slice a T.length cap] 27)
    case atStart=>
     refine⟨0,[],rfl,by omega,by omega,rfl,fun _=>rfl,⟨#[],0,heap_alloc_new w4 _,rfl,?_,?_⟩,H5.alloc H5.size _,Jx.alloc _⟩
     ·intro e he;simp at he
     intro x hx;simp at hx
    case round=>
     obtain⟨k,S,rfl,hk,hf,ox,jH,hS,hb,hB⟩:=hrel;have Hy:=hb.size;have yo:w.heap.size≤w4.heap.size:=H5.size;have hmlt:=hS.lt;by_cases Hh:k<T.length
     ·obtain⟨g,o,pa,pc,rfl,hg,c0,c1,c2,hp,p1,p2,b0,b1,b2⟩:=(HT.o.new hb).at k Hh;have Hk:=hid (show QEi k S (T.drop k)=((decide (0<k)&&QEs S (T[k].name,T[k].parent))||QEi (k+1) (S++[(T[k].name,T[k].parent)]) (T.drop (k+1)))from by rw[List.drop_eq_getElem_cons Hh];rfl);have uO:Qun (T[k].name,T[k].parent):=⟨b0,b1,b2⟩;have HJ:=(hS.alloc (.cells #[.int .i64 T[k].parent,.string T[k].name,.slice pa T[k].props.length pc] 46)).alloc (.cells #[.string T[k].name,.int .i64 T[k].parent] 106);have gn:=(hb.alloc Hy (.cells #[.int .i64 T[k].parent,.string T[k].name,.slice pa T[k].props.length pc] 46)).alloc (by simp;omega) (.cells #[.string T[k].name,.int .i64 T[k].parent] 106);have jF:=(hB.alloc (.cells #[.int .i64 T[k].parent,.string T[k].name,.slice pa T[k].props.length pc] 46)).alloc (.cells #[.string T[k].name,.int .i64 T[k].parent] 106);have jQ:=HJ.look (T[k].name,T[k].parent) uO;unfold QCk at jQ;clear hp;by_cases GN:0<k
      ·have dx:decide (0<k)=true:=by simpa using GN
       cases hm:QEs S (T[k].name,T[k].parent)with
       | true=>
        rw[hm]at jQ;have hC:=hid (show Qia T=5 from by
         unfold Qia;rw[Ma.o,Kg.o,cC.o,ox.o,Hk.o,hm,dx];rfl)
        clear hm;go_wp2_with fail;go_ret;exact⟨QXa (by rw[hC.o]),gn⟩
       | false=>
        rw[hm]at jQ;obtain⟨ob,G8,Mm⟩:=HJ.put (T[k].name,T[k].parent) uO hm;unfold QCk at G8;have HM:=hid hm;clear hm;go_wp2_with fail;go_roundg (gk-1)
        case measure=>omega
        case rel=>
         exact⟨k+1,_,by go_num,by omega,by omega,by show _=_;rw[ox.o,Hk.o,HM.o];simp,by omega,Mm,Q2e gn yo,Qdf jF (by have:=Jx.lt;omega)⟩
      have Jn:k=0:=by omega
      have fP:=jH Jn;subst fP;have dx:decide (0<k)=false:=by simpa using GN
      obtain⟨ob,G8,Mm⟩:=HJ.put (T[k].name,T[k].parent) uO rfl;unfold QCk at G8;have HK:=hid Jn;clear jQ Jn;go_wp2_with fail;go_roundg (gk-1)
      case measure=>omega
      case rel=>
       exact⟨k+1,_,by go_num,by omega,by omega,by show _=_;rw[ox.o,Hk.o,dx];simp,by omega,Mm,Q2e gn yo,Qdf jF (by have:=Jx.lt;omega)⟩
     have oy:=hid (show QFi T=false from by rw[ox.o,List.drop_eq_nil_of_le (by omega)];rfl);have bx5:=hB.cell 0;have blt5:=hB.lt;clear ox hS;go_wp2_with fail;go_loopg [70] (T.length) (fun f x wx=>∃j:Nat,x=.int .i64 j∧j≤T.length∧T.length≤j+f∧Hid (∀i,i<j→Q8s T i≤8)∧Below w.heap.size w wx∧Holds wx w.heap.size #[.slice a T.length cap] 27)
     case atStart=>exact⟨0,rfl,by omega,by omega,fun i h=>absurd h (by omega),hb,hB⟩
     case round=>
      obtain⟨j,rfl,hj,jq,hD,Gd,fF⟩:=hrel;have oM:=Gd.size;have bx7:=fF.cell 0;have blt7:=fF.lt;by_cases g9:j<T.length
      ·have eB:=fun wx hx=>Qej R (.slice a T.length cap) T j wx hx Kg.o (by omega) (by omega) (by omega);have lr:=hid (show Q8s T j=Q8b T T.length j from rfl);generalize Q8b T T.length (j:Int)=d at eB lr;have v9:=hid eB;clear eB;by_cases hd8:8<d
       ·have hC:=hid (show Qia T=2 from by
         have:QEd T=true:=by
          unfold QEd;rw[List.any_eq_true];exact⟨j,List.mem_range.2 g9,by rw[lr.o];simpa using hd8⟩
         unfold Qia;rw[Ma.o,Kg.o,cC.o,oy.o,this];rfl)
        go_wp2_with fail;refine(v9.o _ (by exact HT.o.new Gd)).mono ?_;rintro e w' ⟨rfl,hb'⟩;go_wp2_with fail;go_ret;exact⟨QXa (by rw[hC.o]),Gd.trans (hb'.mono oM)⟩
       have uo:d≤8:=by omega
       go_wp2_with fail;refine(v9.o _ (by exact HT.o.new Gd)).mono ?_;rintro e w' ⟨rfl,hb'⟩;have i5:=fF.fr hb';go_wp2_with fail;go_roundg (gk-1)
       case measure=>omega
       case rel=>
        refine⟨j+1,by go_num,by omega,by omega,?_,Gd.trans (hb'.mono oM),i5⟩;intro i hi;by_cases kV:i=j
        ·subst kV;rw[lr.o];exact uo
        exact hD i (by omega)
      have hC:=hid (show Qia T=0 from by
       have:QEd T=false:=by
        unfold QEd;rw[Bool.eq_false_iff,Ne,List.any_eq_true];rintro⟨i,hi,h8⟩;have:=hD.o i (by have:=List.mem_range.1 hi;omega);simp at h8;omega
       unfold Qia;rw[Ma.o,Kg.o,cC.o,oy.o,this];rfl)
      go_wp2_with fail;go_ret;exact⟨QXa (by rw[hC.o]),Gd⟩
theorem Qmk(a:ByteArray)(w:World):Calls prog 108 #[.string a] w fun e w'=>e=.returned (.bool false)∧w=w':=by
 go_enter func108,ntmps108;go_wp2_with fail;go_ret;exact⟨Qka (by simp),rfl⟩
theorem Q2d(a b:ByteArray)(w:World):Calls prog 79 #[.string a,.string b] w fun e w'=>e=.returned (.int .i64 (Qbc a b))∧w=w':=by
 have n1:=fun wx=>Qmk a wx;have n2:=fun wx=>Qmk b wx;have N1:=hid n1;clear n1;have N2:=hid n2;clear n2;cases h1:Op.bytesLess a.toList b.toList with
 | true=>
  have hC:=hid (show Qbc a b = -1 from by unfold Qbc;rw[if_pos (show ltS a b=true from h1)]);go_enter func79,ntmps79;go_wp2_with fail;refine(N1.o _).mono ?_;rintro e w' ⟨rfl,rfl⟩;go_wp2_with fail;refine(N2.o _).mono ?_;rintro e w' ⟨rfl,rfl⟩;go_wp2_with fail;go_ret;exact⟨QXa (by rw[hC.o]),rfl⟩
 | false=>
  cases h2:(a.toList==b.toList)with
  | true=>
   have hC:=hid (show Qbc a b=0 from by unfold Qbc;rw[if_neg (by rw[show ltS a b=false from h1];simp),if_pos (show eqS a b=true from h2)]);go_enter func79,ntmps79;go_wp2_with fail;refine(N1.o _).mono ?_;rintro e w' ⟨rfl,rfl⟩;go_wp2_with fail;refine(N2.o _).mono ?_;rintro e w' ⟨rfl,rfl⟩;go_wp2_with fail;go_ret;exact⟨QXa (by rw[hC.o]),rfl⟩
  | false=>
   have hC:=hid (show Qbc a b=1 from by unfold Qbc;rw[if_neg (by rw[show ltS a b=false from h1];simp),if_neg (by rw[show eqS a b=false from h2];simp)]);go_enter func79,ntmps79;go_wp2_with fail;refine(N1.o _).mono ?_;rintro e w' ⟨rfl,rfl⟩;go_wp2_with fail;refine(N2.o _).mono ?_;rintro e w' ⟨rfl,rfl⟩;go_wp2_with fail;go_ret;exact⟨QXa (by rw[hC.o]),rfl⟩
theorem Qrf(p:Qqa)(x:ByteArray)(w:World):Calls prog 154 #[.agg #[.string p.name,.string p.value],.string x] w fun e w'=>e=.returned (.int .i64 (Qbc p.name x))∧Below w.heap.size w w':=by
 go_enter func154,ntmps154;go_wp2_with fail;refine(Q2d p.name x _).mono ?_;rintro e w' ⟨rfl,rfl⟩;go_wp2_with fail;go_ret;exact⟨rfl,Bq⟩
theorem Q4g:∀args w,(callFunc 154 args).run prog w=.ok (.enter 154 args) w:=enters_of func154 (by kernel_rfl) rfl
theorem Q1k(R:Nat→Prop)(v:Value)(ps:List Qqa)(x:ByteArray)(w:World)(hP:QAa R w v ps)(ha:Qjd ps=true)(hl:ps.length≤1000) :
 Calls prog 153 #[v,.string x,.func (.func 154) #[] #[]] w
  fun e w'=>e=.returned (.tuple #[.int .i64 (Qmb ps x),.bool (Qtc ps x)])∧Below w.heap.size w w':=by
 obtain⟨a,cap,rfl,gy,gh⟩:=hP.shape;have HP:=hid hP;clear hP;have HA:=hid ha;clear ha;have eg:=Q4g;go_enter func153,ntmps153;go_wp2_with fail;go_loopg [9,10] (ps.length) (fun f y z wr=>∃i j:Nat,y=.int .i64 i∧z=.int .i64 j∧i≤j∧j≤ps.length∧j≤i+f∧Hid (∀k (h:k<ps.length),k<i→ltS ps[k].name x=true)∧Hid (∀k (h:k<ps.length),j≤k→ltS ps[k].name x=false)∧Below w.heap.size w wr)
 case atStart=>exact⟨0,ps.length,rfl,rfl,by omega,by omega,by omega,fun k h h2=>absurd h2 (by omega),fun k h h2=>absurd h (by omega),Below.refl _ _⟩
 case round=>
  obtain⟨i,j,rfl,rfl,kV,hj,hf,iu,oZ,hb⟩:=hrel;have Hy:=hb.size;by_cases Hh:i<j
  ·have hm:(i+j) / 2<ps.length:=by omega
   obtain⟨g,o,rfl,hg,c0,c1,b0,b1⟩:=(HP.o.new hb).at ((i+j) / 2) hm;have kU:=fun wx=>Qrf (ps[(i+j) / 2]) x wx;have me:(ltS (ps[(i+j) / 2]).name x=true∧Qbc (ps[(i+j) / 2]).name x<0)∨(ltS (ps[(i+j) / 2]).name x=false∧0≤Qbc (ps[(i+j) / 2]).name x):=by
    unfold Qbc;cases ltS (ps[(i+j) / 2]).name x
    ·right;simp;split <;> omega
    left;simp
   rcases me with⟨GO,gS⟩|⟨GO,gS⟩
   ·have HL:=hid GO;clear GO;generalize Qbc (ps[(i+j) / 2]).name x=r at kU gS;have HC:=hid kU;clear kU;go_wp2_with fail;refine(HC.o _).mono ?_;rintro e w' ⟨rfl,hb'⟩;go_wp2_with fail;go_roundg (gk-1)
    case measure=>omega
    case rel=>
     refine⟨(i+j) / 2+1,j,by go_num,rfl,by omega,hj,by omega,?_,oZ,hb.trans (hb'.mono Hy)⟩;intro k hk kW;by_cases e:k=(i+j) / 2
     ·subst e;exact HL.o
     exact Q5b (QOm ps HA.o k ((i+j) / 2) hk hm (by omega)) HL.o
   have HL:=hid GO;clear GO;generalize Qbc (ps[(i+j) / 2]).name x=r at kU gS;have HC:=hid kU;clear kU;go_wp2_with fail;refine(HC.o _).mono ?_;rintro e w' ⟨rfl,hb'⟩;go_wp2_with fail;go_roundg (gk-1)
   case measure=>omega
   case rel=>
    refine⟨i,(i+j) / 2,rfl,by go_num,by omega,by omega,by omega,iu,?_,hb.trans (hb'.mono Hy)⟩;intro k hk kW;by_cases e:k=(i+j) / 2
    ·subst e;exact HL.o
    rw[Bool.eq_false_iff];intro hc;have:=Q5b (QOm ps HA.o ((i+j) / 2) k hm hk (by omega)) hc;rw[HL.o]at this;cases this
  have aS:=hid (show Qmb ps x=i from Qkl _ ps i (by omega) (fun k h h2=>iu.o k h h2) (fun h=>oZ.o i h (by omega)));by_cases hi:i<ps.length
  ·obtain⟨g,o,rfl,hg,c0,c1,b0,b1⟩:=(HP.o.new hb).at i hi;have kU:=fun wx=>Qrf ps[i] x wx;have gU:=hid (show Qtc ps x=eqS ps[i].name x from by unfold Qtc;rw[aS.o,List.getElem?_eq_getElem hi]);have mB:=oZ.o i hi (by omega);have me:(eqS ps[i].name x=true∧(Qbc ps[i].name x==0)=true)∨(eqS ps[i].name x=false∧(Qbc ps[i].name x==0)=false):=by
    unfold Qbc;rw[mB];cases eqS ps[i].name x <;> simp
   clear iu oZ mB;rcases me with⟨GO,gS⟩|⟨GO,gS⟩
   ·have HL:=hid GO;clear GO;generalize Qbc ps[i].name x=r at kU gS;have HC:=hid kU;clear kU;go_wp2_with fail;refine(HC.o _).mono ?_;rintro e w' ⟨rfl,hb'⟩;go_wp2_with fail;go_ret2;exact⟨by rw[aS.o,gU.o,HL.o];rfl,hb.trans (hb'.mono Hy)⟩
   have HL:=hid GO;clear GO;generalize Qbc ps[i].name x=r at kU gS;have HC:=hid kU;clear kU;go_wp2_with fail;refine(HC.o _).mono ?_;rintro e w' ⟨rfl,hb'⟩;go_wp2_with fail;go_ret2;exact⟨by rw[aS.o,gU.o,HL.o];rfl,hb.trans (hb'.mono Hy)⟩
  have gU:=hid (show Qtc ps x=false from by unfold Qtc;rw[aS.o,List.getElem?_eq_none (by omega)]);clear iu oZ;go_wp2_with fail;go_ret2;exact⟨by rw[aS.o,gU.o];rfl,hb⟩
theorem Qjg(R:Nat→Prop)(pv:Value)(n:Qba)(x:ByteArray)(w:World)(hP:QAa R w pv n.props)(ha:Qjd n.props=true)(hl:n.props.length≤1000) :
 Calls prog 114 #[.agg #[.int .i64 n.parent,.string n.name,pv],.string x] w fun e w'=>e=.returned (.tuple #[.int .i64 (Qmb n.props x),.bool (Qtc n.props x)])∧Below w.heap.size w w':=by
 obtain⟨a,cap,rfl,gy,gh⟩:=hP.shape;have hs:=fun wx hx=>Q1k R (.slice a n.props.length cap) n.props x wx hx ha hl;generalize Qmb n.props x=y at hs;generalize Qtc n.props x=z at hs;have HS:=hid hs;clear hs;have HP:=hid hP;clear hP;clear ha;go_enter func114,ntmps114;go_wp2_with fail;refine(HS.o _ (by exact HP.o.new ((Below.refl w.heap.size w).alloc (Nat.le_refl _) _))).mono ?_;rintro e w' ⟨rfl,hb⟩;go_wp2_with fail;go_ret2;exact⟨rfl,(Bq).trans (hb.mono (by simp))⟩
theorem Qxp{T:List Qba}(h:Qia T=0)(k:Nat)(hk:k<T.length):T[k].props.length≤24:=by
 have:=QQa h;unfold Qza at this;simp only[Bool.and_eq_true,List.all_eq_true]at this;have:=this.2 _ (List.getElem_mem hk);unfold Qbf at this;simp only[Bool.and_eq_true,decide_eq_true_eq]at this;exact this.1
end
end Go.Proofs.YtgaboghigefgbaaGreatDoor
