/- Lemmas on the way to the law; no conditions. -/
import Derived.Test.YtgaboghigefgbaaGreatDoorZ15
import Derived.Test.YtgaboghigefgbaaGreatDoorShelf2
import Derived.Shelf.SlSortCmp.Whole1
import Derived.Shelf.SlSortCmp.NoneTotal
set_option linter.all false
set_option maxHeartbeats 8000000
namespace Go.Proofs.YtgaboghigefgbaaGreatDoor
open Go.Proofs.Tryz
open Go.RowKit Go.Sort
def Q4s(L:List Qba)(n:Nat)(x y:Fin n):Int:=Qbc (Qya L x) (Qya L y)
def Q8q(n:Nat)(x:Fin n):Value:=.int .i64 (x.val:Int)
theorem QJr(a b:ByteArray):decide (Qbc a b<0)=ltS a b:=by
 unfold Qbc;cases h:ltS a b with
 | true=>simp
 | false=>
  rw[if_neg (by simp)];split <;> simp
theorem QZn{a b c:ByteArray}(h1:ltS a b=false)(h2:ltS b c=false):ltS a c=false:=by
 cases h:ltS a c with
 | false=>rfl
 | true=>
  rcases Qad h1 with rfl|h3
  ·rw[h]at h2;cases h2
  rw[Q5b h3 h]at h2;cases h2
theorem Qwj(L:List Qba)(n:Nat)(x y:Fin n):ltOf (Q4s L n) x y=ltS (Qya L x) (Qya L y):=QJr _ _
theorem QIr(L:List Qba)(n:Nat):SWO (ltOf (Q4s L n)):=by
 refine⟨fun x=>?_,fun x y z h1 h2=>?_,fun x y z h1 h2=>?_⟩
 ·rw[Qwj];exact Qqb _
 ·rw[Qwj]at *;exact Q5b h1 h2
 rw[Qwj]at *;exact QZn h1 h2
theorem Qul(R:Nat→Prop)(lb:Nat)(v:Value)(L:List Qba)(x y:Fin L.length)(w:World)(hB:Holds w lb #[v] 25)(hL:Qoa R w v L) :
 Calls prog 78 #[.int .i64 (x.val:Int),.int .i64 (y.val:Int),.pointer (some ⟨lb,0,none⟩)] w fun e w'=>e=.returned (.int .i64 (Q4s L L.length x y))∧∃q,w'=w.drewN q:=by
 obtain⟨a,cap,rfl,gy,gh⟩:=hL.shape;obtain⟨g,o,pa,pc,Jh,hg,c0,c1,c2,-,-,-,b0,-,-⟩:=hL.at x.val x.isLt;obtain⟨g',o',pa',pc',mG,-,d0,d1,d2,-,-,-,e0,-,-⟩:=hL.at y.val y.isLt;subst Jh;simp only[Option.some.injEq,Addr.mk.injEq,and_true]at mG;obtain⟨rfl,rfl⟩:=mG;have bx:=hB.cell 0;have hx:=x.isLt;have hy:=y.isLt;have de:=Lib.hid (fun wx=>Q2d (L[x.val]).name (L[y.val]).name wx);have HK:=Lib.hid (show Q4s L L.length x y=Qbc (L[x.val]).name (L[y.val]).name from by unfold Q4s;rw[QHa hx,QHa hy]);have x0:(0:Int)≤(x.val:Int):=by omega
 have x1:(x.val:Int)<(L.length:Int):=by omega
 have y0:(0:Int)≤(y.val:Int):=by omega
 have y1:(y.val:Int)<(L.length:Int):=by omega
 clear hL hB;generalize L[x.val]=nx at *
 generalize L[y.val]=ny at *
 go_enter func78,ntmps78;go_wp2_with fail;go_quiet((go_at_call 79;exact(de.o _).mono fun _ _ ⟨p,q⟩=>⟨p,_,q.symm⟩));go_wp2_with fail;go_ret;exact⟨QXa HK.o.symm,_,rfl⟩
theorem QSg{α:Type}[Inhabited α](enc:α→Value)(w:World)(blk off m:Nat)(dk:Array α)(os:Array Obj):Qaa (· = blk) w (sortWorld enc w blk off m dk os):=by
 refine⟨rfl,rfl,rfl,?_,fun k hk hn=>?_⟩
 ·show w.heap.size≤(grow (putRow enc (Sort.ahead w m) blk off dk) os).heap.size;simp[Sort.ahead]
 show((mapBlock (Sort.ahead w m) blk (putCells enc off dk)).heap++os)[k]? = w.heap[k]?;have hsz:k<(mapBlock (Sort.ahead w m) blk (putCells enc off dk)).heap.size:=by
  have:(mapBlock (Sort.ahead w m) blk (putCells enc off dk)).heap.size=w.heap.size:=by simp[mapBlock,Sort.ahead]
  omega
 rw[Array.getElem?_append_left hsz];unfold mapBlock;simp only[Array.getElem?_modify];rw[if_neg (fun e=>hn e.symm)]
 rfl
theorem QFq{α:Type}[Inhabited α](enc:α→Value){w:World}{base:Nat}{e:TypeId}{g cap:Nat}{ks:List α}(h:w.ownsRow base e 1 (.slice (some ⟨g,0,none⟩) ks.length cap) ks.length (ks.map enc)):Sort.Holds enc w g 0 ks.toArray∧g<w.heap.size:=by
 obtain⟨h1,⟨h2,_⟩|⟨g',cap',cur,h2,hb,hh,hc,hm,hs,ht⟩⟩:=h
 ·cases h2
 simp only[Value.slice.injEq,Option.some.injEq,Addr.mk.injEq,and_true,true_and]at h2;obtain⟨rfl,rfl⟩:=h2;refine⟨fun j hj=>?_,lt_of_block hh⟩;have hH:Holds w g cur e:=hh;simp at hj;refine⟨?_,hH.free _⟩;rw[Nat.zero_add,hH.cell j];have:(cur.toList.take (ks.length*1))[j]? = (ks.map enc)[j]?:=by rw[ht]
 rw[List.getElem?_take_of_lt (by omega)]at this;simpa[hj]using this
theorem Qxo{α:Type}[Inhabited α](enc:α→Value){w:World}{base:Nat}{e:TypeId}{g cap:Nat}{ks:List α}(h:w.ownsRow base e 1 (.slice (some ⟨g,0,none⟩) ks.length cap) ks.length (ks.map enc))(m:Nat)(dk:Array α)(os:Array Obj)(hd:dk.size=ks.length) :
 (sortWorld enc w g 0 m dk os).ownsRow base e 1 (.slice (some ⟨g,0,none⟩) ks.length cap) ks.length (dk.toList.map enc):=by
 obtain⟨h1,⟨h2,_⟩|⟨g',cap',cur,h2,hb,hh,hc,hm,hs,ht⟩⟩:=h
 ·cases h2
 simp only[Value.slice.injEq,Option.some.injEq,Addr.mk.injEq,and_true,true_and]at h2;obtain⟨rfl,rfl⟩:=h2;refine⟨by simp[hd],.inr ⟨g,cap,putCells enc 0 dk cur,rfl,hb,?_,hc,hm,by simpa[putCells]using hs,?_⟩⟩
 ·have hg:=lt_of_block hh;show((mapBlock (Sort.ahead w m) g (putCells enc 0 dk)).heap++os)[g]? = _;rw[Array.getElem?_append_left (by simp[mapBlock,Sort.ahead];exact hg)];unfold mapBlock;simp only[Array.getElem?_modify,if_true];show Option.map _ w.heap[g]? = _;rw[hh];rfl
 apply List.ext_getElem
 ·simp only[List.length_take,Array.length_toList,List.length_map,hd];simp only[putCells,Array.size_mapIdx,hs];omega
 intro i k1 k2;have hi:i<dk.size:=by simpa using k2
 have Jm:i<ks.length:=by omega
 simp[putCells,hd,Jm]
theorem QZj(R:Nat→Prop)(lb base:Nat)(v kv:Value)(L:List Qba)(ks:List (Fin L.length))(w:World)(h0:0<L.length)(hB:Holds w lb #[v] 25)(hL:Qoa R w v L)
 (Hn:w.ownsRow base 3 1 kv ks.length (ks.map (Q8q L.length))) (hR:∀g,kv.ownBlock=some g→¬R g∧g≠lb) (hlen:ks.length≤1000) :
 Calls prog 77 #[kv,.func (.func 78) #[] #[.pointer (some ⟨lb,0,none⟩)]] w fun e w'=>
  e=.returned (.tuple #[])∧∃ks':List (Fin L.length),ks'.Perm ks∧ks'.Pairwise (fun a b:Fin L.length=>ltS (Qya L b.val) (Qya L a.val)=false)∧w'.ownsRow base 3 1 kv ks.length (ks'.map (Q8q L.length))∧Qaa (fun i=>kv.ownBlock=some i) w w':=by
 have:Inhabited (Fin L.length):=⟨⟨0,h0⟩⟩;rcases Hn.2 with⟨rfl,hz⟩|⟨g,cap,cur,rfl,hb,hh,hc,hm,hs,ht⟩
 ·have hk:ks=[]:=List.length_eq_zero_iff.1 hz;subst hk;refine(AnyF.slices_SortFunc_none (P:=prog) (ρ:=Tryz.slsort_ren) { Tryz.slsort with } none 0 _ w).mono ?_;rintro e w' ⟨rfl,rfl⟩;exact⟨rfl,[],List.Perm.refl _,List.Pairwise.nil,Hn,Qaa.refl _ _⟩
 have hR':=hR g rfl;have eg:∀args w,(callFunc 78 args).run prog w=.ok (.enter 78 args) w:=enters_of func78 (by kernel_rfl) rfl;obtain⟨hH,hg⟩:=QFq (Q8q L.length) Hn;have aE:CmpLays1 prog 78 #[.pointer (some ⟨lb,0,none⟩)] (Q8q L.length) (Q4s L L.length) g 0 ks.toArray.size w:=by
  refine CmpReads.lays fun m os dk _ x y=>?_;have hk:=QSg (Q8q L.length) w g 0 m dk os;refine Qul R lb v L x y _ (hB.keeps hk (fun e=>hR'.2 e.symm)) (hL.keeps hk (fun i hi e=>?_));subst e;exact hR'.1 hi
 have oP:=Any.slices_SortFunc Tryz.slsort (Q8q L.length) (fun _=>rfl) (Q4s L L.length) (QIr L L.length) 78 #[.pointer (some ⟨lb,0,none⟩)] g 0 cap ks.toArray w eg aE hH hg (by simp;omega);simp only[List.size_toArray]at oP;refine oP.mono ?_;rintro e w' ⟨rfl,d',n,os,hp,vH,rfl⟩;have hsz:d'.size=ks.length:=by have:=hp.1;simpa using this
 refine⟨rfl,d'.toList,?_,?_,Qxo (Q8q L.length) Hn n d' os hsz,?_⟩
 ·have:=hp.2.2;simpa[Array.extract_eq_self_of_le,hsz]using this
 ·rw[List.pairwise_iff_getElem];intro i j hi hj kV;have:=vH i j (Nat.zero_le _) kV (by simpa[hsz]using hj);rw[Qwj]at this;simp at hi hj;simpa[hi,hj]using this
 exact(QSg (Q8q L.length) w g 0 n d' os).mono (fun i _ e=>by subst e;rfl)
end Go.Proofs.YtgaboghigefgbaaGreatDoor
