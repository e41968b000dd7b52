/- Lemmas on the way to the law; no conditions. -/
import Derived.Test.YtgaboghigefgbaaGreatDoorZ32
import Derived.Deep.LoopGhost
import Derived.Laws.AppendOwn
import Derived.Laws.OwnMore
set_option linter.all false
set_option maxRecDepth 100000
set_option maxHeartbeats 8000000
namespace Go.Proofs.YtgaboghigefgbaaGreatDoor
open Go.Lib (hid)
open Go.RowKit
theorem QBj(L:List (Int × ByteArray × Int))(v:Value)(i:Nat)(w:World)(hv:QBl (fun x=>x<w.heap.size) w v L)(hL:L.length≤1000000000)(hi:i<L.length)(hnp:¬QKd L i=⟨#[40]⟩) :
 Calls Tryz.prog 231 #[v,.int .i64 i,.func (.func 232) #[] #[]] w fun e w'=>∃res,Rd L .prim 0 i res∧e=.returned (.tuple #[.int .i64 (Q3j res).1,.int .i64 (Q3j res).2.1,.int .i64 (Q3j res).2.2])∧Below w.heap.size w w':=by
 have lz:(i:Int)<(L.length:Int):=by omega
 have Jm:¬((L.length:Int)≤(i:Int)):=by omega
 have ht:=Qup w;have HV:=hid hv;obtain⟨a,cap,rfl,_⟩:=hv;go_enter Tryz.func231,Tryz.ntmps231;go_wp2_with fail;refine ht.mono ?_;rintro e w1 ⟨g,bs,rfl,qe,Hb,Al,uA,kL⟩;have yA:=kL.size;have ma:QTc (w1.alloc (.cells #[.slice a L.length cap,.slice (some ⟨g,0,none⟩) 10 10,.int .i64 i,.int .i64 (0:Nat),.bool false,.bool false,.bool false,.bool false] 261)) w1.heap.size L i 0 false false false false:=by
  have k1:Qaa (fun _=>False) w w1:=Qaa.of_fresh kL _;have k2:=(Qaa.refl (fun _=>False) w1).alloc (.cells #[.slice a L.length cap,.slice (some ⟨g,0,none⟩) 10 10,.int .i64 i,.int .i64 (0:Nat),.bool false,.bool false,.bool false,.bool false] 261);have Kk:=(HV.o.keeps k1 (fun _ _ e=>e)).keeps k2 (fun _ _ e=>e);obtain⟨a',c',e1,e2,e3⟩:=Kk;refine⟨.slice a L.length cap,g,bs,Holds.new w1 _ _,⟨a',c',e1,e2,fun h0=>?_⟩,qe.keeps k2 (fun e=>e) (fun _ _ e=>e),by omega,fun b hb e=>?_,by omega,hL,by omega⟩
  ·obtain⟨g',o',f1,f2,f3⟩:=e3 h0;exact⟨g',o',f1,(by show g'≠w1.heap.size;omega),f3⟩
  have:=Hb b hb;omega
 have qk:=Qui w1.heap.size L 0 i false false false _ ma hnp;go_wp2_with fail;refine Calls.mono (by exact qk) ?_;rintro e w2 MK;obtain⟨u,j,s,p,g2,q,rfl,qh,AK,hj,c2,c4,c5,c6,c7,rl,yh,pW⟩:=Qto MK;have jo:w1.heap.size<w2.heap.size:=rl;obtain⟨b,hb⟩:∃b,b=w1.heap.size:=⟨_,rfl⟩;rw[←hb]at c2 c4 c5 c6 c7 jo rl;have HK:=hid yh;have HT:=hid (show True from trivial);clear qk ma MK yh HT ht qe Hb Al uA HV;have HB:=hid kL;have jj:=hid yA;clear kL yA;rw[←hb];have HBB:=hid hb;clear hb;go_wp2_with fail;go_region;obtain⟨W3,gb,xO,aJ,m0,m1,m2,m3,m4,m5,m6,m7,m8,mk⟩:=QYp w2 s p g2 q 262;rw[xO,aJ];have c2':=(mk.cell (p:=⟨b,2,none⟩) rl (fun e=>e)).trans c2;have c2l:b<W3.heap.size:=Nat.lt_of_lt_of_le rl mk.size;have Ju:=hid mk;clear mk c2 c4 c5 c6 c7 rl jo xO aJ;have J1:=hid pW;clear pW;go_wp2_with fail;go_loopg [12,51] 4 (fun f x y wr=>∃k:Nat,y=.int .i64 (k:Int)∧k+f=4∧Hid (∀j,j<k→mkF s p g2 q j=false)∧Hid (Qaa (fun _=>False) W3 wr))
 case atStart=>exact⟨0,rfl,rfl,hid (by intro j hj;omega),hid (Qaa.refl _ _)⟩
 case round=>
  obtain⟨k,hy,dA,hM,mU⟩:=hrel;have e0:=mU.o.cell_of m0 m8;have e1:=mU.o.cell_of m1 m8;have e2:=mU.o.cell_of m2 m8;have e3:=mU.o.cell_of m3 m8;have e4:=mU.o.cell_of m4 m8;have e5:=mU.o.cell_of m5 m8;have e6:=mU.o.cell_of m6 m8;have e7:=mU.o.cell_of m7 m8;have e8:gb<wr.heap.size:=Nat.lt_of_lt_of_le m8 mU.o.size;have c2w:=mU.o.cell_of c2' c2l;have c2v:b<wr.heap.size:=Nat.lt_of_lt_of_le c2l mU.o.size;have KZ:k=0∨k=1∨k=2∨k=3∨k=4:=by omega
  clear m0 m1 m2 m3 m4 m5 m6 m7 m8 c2' c2l;rcases KZ with rfl|rfl|rfl|rfl|rfl
  ·obtain rfl:u51=.int .i64 0:=hy;cases s
   ·go_wp2_with fail;go_roundg (gk-1)
    case measure=>omega
    case rel=>
     refine⟨1,rfl,by omega,hid ?_,hid ?_⟩
     ·intro j hj;rcases Nat.lt_or_ge j 0 with c|c
      ·exact hM.o j c
      obtain rfl:j=0:=by omega
      rfl
     exact mU.o.alloc _
   have js:=hM.o;clear hM;have GW:=hid js;clear js;go_wp2_with fail;go_quiet(fail);go_wp2_with fail;go_ret3;obtain⟨res,kA,bd⟩:=J1.o;have hv:Q3j res=(0,0,6):=by rw[bd];simp[Q8l]
   have B1:Below w.heap.size w w2:=(HB.o.alloc jj.o _).trans (HK.o.below (by have:=jj.o;simp;omega) (fun i hi e=>by have:=jj.o;omega));have B2:Below w.heap.size w wr:=B1.trans ((Ju.o.trans mU.o (fun _ _ e=>e)).below B1.size (fun _ _ e=>e));exact⟨res,kA,by rw[hv];rfl,B2.trans (Qaa.below (S:=fun _=>False) (Q2f wr _ _) B2.size (fun _ _ e=>e))⟩
  ·obtain rfl:u51=.int .i64 1:=hy;cases p
   ·go_wp2_with fail;go_roundg (gk-1)
    case measure=>omega
    case rel=>
     refine⟨2,rfl,by omega,hid ?_,hid ?_⟩
     ·intro j hj;rcases Nat.lt_or_ge j 1 with c|c
      ·exact hM.o j c
      obtain rfl:j=1:=by omega
      rfl
     exact mU.o.alloc _
   have js:=hM.o;clear hM;have GW:=hid js;clear js;go_wp2_with fail;go_quiet(fail);go_wp2_with fail;go_ret3;obtain⟨res,kA,bd⟩:=J1.o;have f0:=GW.o 0 (by omega);simp only[mkF]at f0;have hv:Q3j res=(0,0,3):=by rw[bd];simp[Q8l,f0]
   have B1:Below w.heap.size w w2:=(HB.o.alloc jj.o _).trans (HK.o.below (by have:=jj.o;simp;omega) (fun i hi e=>by have:=jj.o;omega));have B2:Below w.heap.size w wr:=B1.trans ((Ju.o.trans mU.o (fun _ _ e=>e)).below B1.size (fun _ _ e=>e));exact⟨res,kA,by rw[hv];rfl,B2.trans (Qaa.below (S:=fun _=>False) (Q2f wr _ _) B2.size (fun _ _ e=>e))⟩
  ·obtain rfl:u51=.int .i64 2:=hy;cases g2
   ·go_wp2_with fail;go_roundg (gk-1)
    case measure=>omega
    case rel=>
     refine⟨3,rfl,by omega,hid ?_,hid ?_⟩
     ·intro j hj;rcases Nat.lt_or_ge j 2 with c|c
      ·exact hM.o j c
      obtain rfl:j=2:=by omega
      rfl
     exact mU.o.alloc _
   have js:=hM.o;clear hM;have GW:=hid js;clear js;go_wp2_with fail;go_quiet(fail);go_wp2_with fail;go_ret3;obtain⟨res,kA,bd⟩:=J1.o;have f0:=GW.o 0 (by omega);simp only[mkF]at f0;have f1:=GW.o 1 (by omega);simp only[mkF]at f1;have hv:Q3j res=(0,0,2):=by rw[bd];simp[Q8l,f0,f1]
   have B1:Below w.heap.size w w2:=(HB.o.alloc jj.o _).trans (HK.o.below (by have:=jj.o;simp;omega) (fun i hi e=>by have:=jj.o;omega));have B2:Below w.heap.size w wr:=B1.trans ((Ju.o.trans mU.o (fun _ _ e=>e)).below B1.size (fun _ _ e=>e));exact⟨res,kA,by rw[hv];rfl,B2.trans (Qaa.below (S:=fun _=>False) (Q2f wr _ _) B2.size (fun _ _ e=>e))⟩
  ·obtain rfl:u51=.int .i64 3:=hy;cases q
   ·go_wp2_with fail;go_roundg (gk-1)
    case measure=>omega
    case rel=>
     refine⟨4,rfl,by omega,hid ?_,hid ?_⟩
     ·intro j hj;rcases Nat.lt_or_ge j 3 with c|c
      ·exact hM.o j c
      obtain rfl:j=3:=by omega
      rfl
     exact mU.o.alloc _
   have js:=hM.o;clear hM;have GW:=hid js;clear js;go_wp2_with fail;go_quiet(fail);go_wp2_with fail;go_ret3;obtain⟨res,kA,bd⟩:=J1.o;have f0:=GW.o 0 (by omega);simp only[mkF]at f0;have f1:=GW.o 1 (by omega);simp only[mkF]at f1;have f2:=GW.o 2 (by omega);simp only[mkF]at f2;have hv:Q3j res=(0,0,22):=by rw[bd];simp[Q8l,f0,f1,f2]
   have B1:Below w.heap.size w w2:=(HB.o.alloc jj.o _).trans (HK.o.below (by have:=jj.o;simp;omega) (fun i hi e=>by have:=jj.o;omega));have B2:Below w.heap.size w wr:=B1.trans ((Ju.o.trans mU.o (fun _ _ e=>e)).below B1.size (fun _ _ e=>e));exact⟨res,kA,by rw[hv];rfl,B2.trans (Qaa.below (S:=fun _=>False) (Q2f wr _ _) B2.size (fun _ _ e=>e))⟩
  obtain rfl:u51=.int .i64 4:=hy;go_wp2_with fail;go_quiet(fail);go_wp2_with fail;go_ret3;obtain⟨res,kA,bd⟩:=J1.o;have f0:=hM.o 0 (by omega);simp only[mkF]at f0;have f1:=hM.o 1 (by omega);simp only[mkF]at f1;have f2:=hM.o 2 (by omega);simp only[mkF]at f2;have f3:=hM.o 3 (by omega);simp only[mkF]at f3;have hv:Q3j res=(u,(j:Int),0):=by rw[bd];simp[Q8l,f0,f1,f2,f3]
  have B1:Below w.heap.size w w2:=(HB.o.alloc jj.o _).trans (HK.o.below (by have:=jj.o;simp;omega) (fun i hi e=>by have:=jj.o;omega));have B2:Below w.heap.size w wr:=B1.trans ((Ju.o.trans mU.o (fun _ _ e=>e)).below B1.size (fun _ _ e=>e));exact⟨res,kA,by rw[hv];rfl,B2.trans (Qaa.below (S:=fun _=>False) (Qwa wr _) B2.size (fun _ _ e=>e))⟩
end Go.Proofs.YtgaboghigefgbaaGreatDoor
