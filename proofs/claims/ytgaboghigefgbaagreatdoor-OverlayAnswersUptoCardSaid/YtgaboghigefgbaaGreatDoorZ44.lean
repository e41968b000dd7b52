/- Lemmas on the way to the law; no conditions. -/
import Derived.Test.YtgaboghigefgbaaGreatDoorZ43
import Derived.StillTailTactics
import Derived.Laws.IdiomStrings
set_option linter.all false
set_option maxRecDepth 100000
set_option maxHeartbeats 8000000
namespace Go.Proofs.YtgaboghigefgbaaGreatDoor
open Go.Proofs.Tryz
open Go.RowKit
theorem QFr{w w':World}{B:Nat}{g o:Nat}{x:Value}(h:w.cell? ⟨g,o,none⟩=some x)(hg:g<B)(k:Below B w w'):w'.cell? ⟨g,o,none⟩=some x:=(k.cell (p:=⟨g,o,none⟩) hg).trans h
theorem QFj:(prog.info? 5).map (fun i=>(i.zero,i.size,i.bytes))=some (some (.int .u8 0),1,1):=by kernel_rfl
theorem Q3c{w:World}{base:Nat}{v:Value}{acc:List UInt8}(h:w.ownsRow base 5 1 v acc.length (Lib.byteCells acc)) :
 (convert 88 9 v).run prog w=.ok (.string ⟨acc.toArray⟩) w:=by
 rcases h.2 with⟨rfl,h0⟩|⟨g,cap,cur,rfl,hb,hh,hcap,hr⟩
 ·have:acc=[]:=List.eq_nil_of_length_eq_zero h0;subst this;exact run_convert_bytes_nil w _ _ underlying88 underlying5 0 0 _ underlying9
 refine run_convert_bytes_back w _ _ _ ⟨g,0,none⟩ cap acc underlying88 underlying5 underlying9 ?_;intro j hj;exact h.cells (g:=g) rfl j _ (by simp[Lib.byteCells,hj])
theorem Qyf{w:World}{base:Nat}{e:TypeId}{v:Value}{n:Nat}{xs:List Value}(h:w.ownsRow base e 1 v n xs):∃a cap,v=.slice a n cap:=by
 rcases h.2 with⟨rfl,rfl⟩|⟨g,cap,cur,rfl,_⟩
 ·exact⟨none,0,rfl⟩
 exact⟨_,cap,rfl⟩
def QPd(n:Int):List UInt8:=[UInt8.ofNat (n / 16777216).toNat,UInt8.ofNat (n / 65536 % 256).toNat,UInt8.ofNat (n / 256 % 256).toNat,UInt8.ofNat (n % 256).toNat]
theorem Qnh{n:Int}(h0:0≤n)(h1:n≤255):((UInt8.ofNat n.toNat).toNat:Int)=n:=by
 rw[UInt8.toNat_ofNat',Nat.mod_eq_of_lt (by omega)];omega
theorem Qgk(n:Int)(h0:0≤n)(h1:n≤4294967295):Lib.byteCells (QPd n)=[.int .u8 (n / 16777216),.int .u8 (n / 65536 % 256),.int .u8 (n / 256 % 256),.int .u8 (n % 256)]:=by
 have a:=Qnh (n:=n / 16777216) (by omega) (by omega);have b:=Qnh (n:=n / 65536 % 256) (by omega) (by omega);have c:=Qnh (n:=n / 256 % 256) (by omega) (by omega);have d:=Qnh (n:=n % 256) (by omega) (by omega);unfold QPd Lib.byteCells;simp only[List.map_cons,List.map_nil,a,b,c,d]
def Qvi(l:List Int):List UInt8:=l.flatMap QPd
theorem QMn(l:List Int)(v:Value)(w:World)(hl:Qys w.heap.size w v l)(hr:∀x∈l,0≤x∧x≤4294967295)(hlen:l.length≤1000) :
 Calls prog 69 #[v] w fun e w'=>e=.returned (.string ⟨(Qvi l).toArray⟩)∧Below w.heap.size w w':=by
 obtain⟨a,cap,rfl,gy,gh,gj⟩:=hl;have HA:=Lib.hid gj;clear gj;have HR:=Lib.hid hr;clear hr;go_enter func69,ntmps69;go_wp2_with fail
 go_loopg [3,8] (l.length) (fun f x y wr=>∃(k:Nat) (acc:List UInt8),y=.int .i64 k∧k≤l.length∧l.length≤k+f∧Hid (Qvi l=acc++Qvi (l.drop k))∧Hid (acc.length=4*k)∧
  wr.ownsRow w.heap.size 5 1 x acc.length (Lib.byteCells acc)∧Below w.heap.size w wr)
 case atStart=>exact⟨0,[],rfl,by omega,by omega,rfl,rfl,World.ownsRow_nil _ _ _ _,Below.refl _ _⟩
 case round=>
  obtain⟨k,acc,rfl,Ga,kW,hA,zK,Hi,hb⟩:=hrel;have Hy:=hb.size;by_cases Hh:k<l.length
  ·obtain⟨g,o,rfl,hg,gB⟩:=HA.o (by omega);have hx:=HR.o l[k] (List.getElem_mem Hh);have c0:=QFr (gB k Hh) hg hb;have Hk:=Lib.hid (show Qvi (l.drop k)=QPd l[k]++Qvi (l.drop (k+1))from by
    rw[List.drop_eq_getElem_cons Hh];rfl)
   have g0:(k:Int)<(l.length:Int):=by omega
   clear gB;generalize l[k]=n at hx c0 Hk;obtain⟨JM,MV⟩:=hx;obtain⟨ao,co,rfl⟩:=Qyf Hi;have i0':(0:Int)≤k:=by omega
   obtain⟨i0,hi,Hz,Ho,H4⟩:=info_parts QFj;have nN:=zK.o;have HK:=Lib.hid nN;have ma:acc.length≤4000:=by omega
   clear nN;go_wp2_with(at_builtin;refine wpList_append_own _ rfl _ _ 88 rfl w.heap.size 5 i0 (.int .u8 0) 1 1 underlying88 hi Hz Ho H4 rfl (by decide) _ _ _ rfl (by exact World.ownsRow.alloc Hi _) ⟨wr.heap.size,0,none⟩ 4 4 [.int .u8 (n / 16777216),.int .u8 (n / 65536 % 256),.int .u8 (n / 256 % 256),.int .u8 (n % 256)] rfl rfl ?c1 ?c2 ?c3 ?c4 ?c5 ?_)
   case c1=>exact Q8a _ _ _ _ rfl _ rfl
   case c2=>intro u hu;simp at hu;rcases hu with rfl|rfl|rfl|rfl <;> rfl
   case c3=>unfold maxLen;omega
   case c4=>omega
   case c5=>simp;omega
   intro v' w3 Hj Hd _;have Hg:Below w.heap.size w w3:=(hb.alloc Hy _).grown Hd (by simp;omega) (fun g hg=>by have:=(Hi.lt g hg).1;omega);have H7:w3.ownsRow w.heap.size 5 1 v' (acc++QPd n).length (Lib.byteCells (acc++QPd n)):=by
    have e:=Qgk n JM MV;have e2:Lib.byteCells (acc++QPd n)=Lib.byteCells acc++Lib.byteCells (QPd n):=by simp[Lib.byteCells]
    rw[e2,e,List.length_append,show(QPd n).length=4 from rfl];exact Hj
   clear Hd Hj;obtain⟨ao',cap',rfl⟩:=Qyf H7;go_wp2_with fail;go_roundg (gk-1)
   case measure=>omega
   case rel=>
    refine⟨k+1,acc++QPd n,by go_num,by omega,by omega,?_,?_,H7,Hg⟩
    ·show _=_;rw[hA.o,Hk.o];simp
    show _=_;rw[List.length_append,HK.o,show(QPd n).length=4 from rfl];omega
  have Hp:=Lib.hid (show Qvi l=acc from by rw[hA.o,List.drop_eq_nil_of_le (by omega)];simp[Qvi]);have Mf:=Q3c Hi;obtain⟨ao,co,rfl⟩:=Qyf Hi;go_wp2_with fail;go_ret;exact⟨by rw[Hp.o];rfl,hb⟩
end Go.Proofs.YtgaboghigefgbaaGreatDoor
