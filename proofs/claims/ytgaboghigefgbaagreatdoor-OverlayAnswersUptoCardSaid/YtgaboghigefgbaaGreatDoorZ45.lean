/- Lemmas on the way to the law; no conditions. -/
import Derived.Test.YtgaboghigefgbaaGreatDoorZ19
import Derived.Test.YtgaboghigefgbaaGreatDoorZ40
import Derived.Test.YtgaboghigefgbaaGreatDoorZ44
set_option linter.all false
set_option maxRecDepth 100000
set_option maxHeartbeats 8000000
namespace Go.Proofs.YtgaboghigefgbaaGreatDoor
open Go.Proofs.Tryz
open Go.Lib (hid)
open Go.RowKit
theorem QFb.holds{B b:Nat}{w:World}(h:QFb B w b):∃cs,Holds w b cs 63:=by
 obtain⟨_,_,_,_,_,hH,_⟩:=h;exact⟨_,hH⟩
theorem Qda.tape{B b base:Nat}{w w':World}{v:Value}{T:List Qba}(h:Qda w base v T)(ht:QFb B w b)(k:Qaa (· = b) w w'):Qda w' base v T:=by
 obtain⟨cs,hH⟩:=ht.holds;exact h.other hH (by decide) (by decide) k
theorem QFb.new{B b:Nat}{w w':World}(h:QFb B w b)(k:Below w.heap.size w w'):QFb B w' b:=h.keeps (Qaa.of_fresh k (fun _=>False)) (fun _ e=>e.elim)
theorem Qda.slice{w:World}{base:Nat}{v:Value}{T:List Qba}(h:Qda w base v T):∃a c,v=.slice a T.length c:=by
 obtain⟨_,_,g2,_⟩:=h;exact Qea g2
theorem QSj{B b base:Nat}{w w':World}{e:TypeId}{size:Nat}{v:Value}{n:Nat}{xs:List Value}(h:w.ownsRow base e size v n xs)(ht:QFb B w b)(Hl:63≠e)(k:Qaa (· = b) w w'):w'.ownsRow base e size v n xs:=by
 obtain⟨cs,hH⟩:=ht.holds;exact Qai h hH Hl k
theorem Qhq{w:World}{base:Nat}{e:TypeId}{size:Nat}{a:Option Addr}{n c:Nat}{xs:List Value}(h:w.ownsRow base e size (.slice a n c) n xs):n≤c∧c≤9223372036854775807:=by
 rcases h.2 with⟨e,rfl⟩|⟨g,cap,cur,e,_,_,h2,h3,_⟩
 ·cases e;omega
 cases e;unfold maxLen at h3;omega
theorem QBp(l:List Int):(⟨(Qvi l).toArray⟩:ByteArray).size=4*l.length:=by
 show(Qvi l).toArray.size=_;simp only[List.size_toArray]
 induction l with
 | nil=>rfl
 | cons x l ih=>
  show(QPd x++Qvi l).length=_;rw[List.length_append,ih,show(QPd x).length=4 from rfl,List.length_cons];omega
theorem Q0r{w:World}{base:Nat}{e:TypeId}{v:Value}{l:List Int}(h:w.ownsRow base e 1 v l.length (QPe l)):Qys w.heap.size w v l:=by
 obtain⟨a,c,rfl⟩:=Qea h;have hl:=Qhq h;refine⟨a,c,rfl,hl.1,hl.2,fun h0=>?_⟩;obtain⟨g,c',e,-,hg⟩:=h.form h0;simp only[Value.slice.injEq]at e;obtain⟨rfl,-,rfl⟩:=e;refine⟨g,0,rfl,hg,fun i hi=>?_⟩;rw[Nat.zero_add,h.cellAt i (by omega)];simp[QPe,hi]
theorem Qts(v:Int)(h0:0≤v)(h1:v≤255):((v.toNat.toUInt8).toNat:Int)=v:=by simp[Nat.toUInt8];omega
theorem Quh(acc:List UInt8)(v:Int)(h0:0≤v)(h1:v≤255):Lib.byteCells acc++[.int .u8 v]=Lib.byteCells (acc++[v.toNat.toUInt8]):=by
 unfold Lib.byteCells;rw[List.map_append,List.map_singleton,Qts v h0 h1]
def QXs(B b:Nat)(w:World)(e:Ending)(w':World):Prop:=∃s:ByteArray,e=.returned (.string s)∧s.size≤100∧QFb B w' b∧Qaa (· = b) w w'
def QYr:List ByteArray:=[⟨#[97,0]⟩,⟨#[111,107,97,121,0]⟩,⟨#[102,105,114,115,116,0,115,101,99,111,110,100,0]⟩,⟨#[119,105,116,104,32,34,113,117,111,116,101,34,32,97,110,100,32,92,0]⟩,⟨#[116,97,98,9,0]⟩,⟨#[97,98,0,0]⟩]
theorem QZr:∀s∈QYr,s.size≤100:=by decide
theorem QQi(B b:Nat)(w:World)(h:QFb B w b) :
 Calls prog 32 #[.pointer (some ⟨b,0,none⟩)] w (QXs B b w):=by
 have Hh:=h.lt;have fG:B≤w.heap.size:=Nat.le_trans h.1 (Nat.le_of_lt Hh);go_enter func32,ntmps32;go_wp2_with fail;refine(QUg B b 7 _ h (by omega) (by omega)).mono ?_;rintro e w1 ⟨r,rfl,r0,r1,GU,Gh⟩;have Gn:=Gh.size;by_cases h0:r=0
 ·have h0':(r==0)=true:=by simp[h0]
  clear h0;go_wp2_with fail;go_ret;exact⟨_,rfl,by decide,GU,Gh⟩
 have h0':(r==0)=false:=by simpa using h0
 have vy:(r=1∨r=2)∨¬(r=1∨r=2):=by omega
 clear h0;rcases vy with MC|MC
 ·have Kd:=hid (fun wx hx=>QZp B b wx hx);rcases MC with rfl|rfl
  all_goals
   go_wp2_with fail;refine(Q6f B b 1 3 _ GU (by omega) (by omega) (by omega)).mono ?_;rintro e w2 ⟨q,rfl,q0,q1,g8,H3⟩;have jG:=Gh.trans H3 (fun _ _ e=>e);clear GU Gh H3;go_wp2_with fail;go_loopg [3,4] 3 (fun f x y wr=>∃(l:List Int) (c:Int),y=.int .i64 c∧0≤c∧c.toNat≤f∧(l.length:Int)+c≤3∧Hid (∀z∈l,0≤z∧z≤4294967295)∧wr.ownsRow w.heap.size 3 1 x l.length (QPe l)∧QFb B wr b∧Qaa (· = b) w wr)
   case atStart=>exact⟨[],q,rfl,by omega,by omega,by simp;omega,(fun z hz=>by cases hz),World.ownsRow_nil _ _ _ _,g8,jG⟩
   case round=>
    clear g8 jG;obtain⟨l,c,rfl,xU,eA,pA,lF,Hi,hT,hK⟩:=hrel;by_cases hc:0<c
    ·obtain⟨ra,rc,rfl⟩:=Qea Hi;have si:=lF;have GS:=hid Hi;clear Hi lF;go_wp2_with fail;refine(Kd.o _ (by exact hT)).mono ?_;rintro e w3 ⟨x,rfl,x0,x1,Gj,H9⟩;have mi:=QSj GS.o hT (by decide) H9;have jG:=hK.trans H9 (fun _ _ e=>e);have lL:=jG.size;have Hg:Below w3.heap.size w3 (w3.alloc (.cells #[.int .i64 x] 3)):=Bq;have Mn:=Gj.new Hg;have Gs:=hid (Qbb mi Hg);obtain⟨i0,hi,Hz,Ho,H4⟩:=info_parts Qgt;clear hT hK H9 mi GS;go_wp2_with(at_builtin;refine wpList_append_own _ rfl _ _ 22 rfl w.heap.size 3 i0 (.int .i64 0) 1 8 underlying22 hi Hz Ho H4 rfl (by decide) _ l.length (QPe l) rfl (by exact Gs.o) ⟨w3.heap.size,0,none⟩ 1 1 [.int .i64 x] rfl rfl ?c1 ?c2 ?c3 ?c4 ?c5 ?_)
     case c1=>exact Q8a _ _ _ _ rfl _ rfl
     case c2=>intro u hu;simp at hu;rcases hu with rfl;rfl
     case c3=>unfold maxLen;omega
     case c4=>omega
     case c5=>simp;omega
     intro v' w5 Hj Hd _;obtain⟨ra',rc',rfl⟩:=Qea Hj;have mA:QFb B w5 b:=Mn.keeps (Qaa.of_grown Hd (S:=fun i=>(Value.slice ra l.length rc).ownBlock=some i) (fun _ e=>e)) (fun i e=>by
      obtain⟨cs,hH⟩:=Mn.holds;exact⟨by have:=(Gs.o.lt i e).1;omega,fun e2=>by subst e2;exact Qla Gs.o hH (by decide) e⟩)
     have gW:Qaa (· = b) w w5:=(jG.trans (Qaa.of_fresh Hg (fun i=>i=b)) (fun _ _ e=>e)).grown Hd (fun i e=>.inl (Gs.o.lt i e).1);have HF:=hid (show w5.ownsRow w.heap.size 3 1 (.slice ra' (l.length+1) rc') (l++[x]).length (QPe (l++[x]))from by
      rw[List.length_append,List.length_singleton];unfold QPe;rw[List.map_append];exact Hj)
     clear Hj Hd Gs Mn jG Hg;go_wp2_with fail;go_roundg (c-1).toNat
     case measure=>omega
     case rel=>
      refine⟨l++[x],c-1,rfl,by omega,by omega,by simp;omega,?_,HF.o,mA,gW⟩;intro z hz;rcases List.mem_append.1 hz with hz|hz
      ·exact si.o z hz
      simp at hz;subst hz;exact⟨x0,x1⟩
    have rd:¬c > 0:=by omega
    have Ar:=hid (Q0r Hi);have si:=lF;clear Hi lF;go_wp2_with fail;refine(QMn l _ _ Ar.o si.o (by omega)).mono ?_;rintro e w3 ⟨rfl,Hg⟩;have hsz:=QBp l;have Gj:=hT.new Hg;have H9:=hK.trans (Qaa.of_fresh Hg (fun i=>i=b)) (fun _ _ e=>e);go_wp2_with fail;go_ret;exact⟨_,rfl,by omega,Gj,H9⟩
 have e1:(r==1)=false:=by simp;omega
 have e2:(r==2)=false:=by simp;omega
 clear MC;by_cases h3:r=3
 ·have e3:(r==3)=true:=by simp[h3]
  clear h3;go_wp2_with fail;refine(QUg B b 6 _ (GU.new (Bq)) (by omega) (by omega)).mono ?_;rintro e w2 ⟨q,rfl,q0,q1,g8,H3⟩;obtain⟨q,rfl⟩:=Int.eq_ofNat_of_zero_le q0;have Jp:=GU.lt;have hH:=(Holds.new w1 (QYr.map Value.string).toArray 9).keeps H3 (by omega);obtain⟨s,Gn,Gx⟩:=QIc QYr q (by have:QYr.length=6:=rfl;omega);have hc:w2.cell? ⟨w1.heap.size,q,none⟩=some (.string s):=(hH.cell q).trans (by simp[Gn]);have oe:Qaa (fun i=>i=b) w w2:=(Gh.alloc _).trans H3 (fun _ _ e=>e);have hsz:=QZr s Gx;go_wp2_with fail;go_ret;exact⟨s,rfl,hsz,g8,oe⟩
 have e3:(r==3)=false:=by simp;omega
 by_cases h4:r=4
 ·have e4:(r==4)=true:=by simp[h4]
  clear h3 h4;go_wp2_with fail;go_ret;exact⟨_,rfl,by decide,GU,Gh⟩
 have e4:(r==4)=false:=by simp;omega
 clear h3 h4;go_wp2_with fail;refine(QUg B b 9 _ GU (by omega) (by omega)).mono ?_;rintro e w2 ⟨q,rfl,q0,q1,g8,H3⟩;have jG:=Gh.trans H3 (fun _ _ e=>e);clear GU Gh H3;go_wp2_with fail;go_loopg [5,6] 9 (fun f x y wr=>∃(l:List UInt8) (c:Int),y=.int .i64 c∧0≤c∧c.toNat≤f∧(l.length:Int)+c≤9∧wr.ownsRow w.heap.size 5 1 x l.length (Lib.byteCells l)∧QFb B wr b∧Qaa (· = b) w wr)
 case atStart=>exact⟨[],q,rfl,by omega,by omega,by simp;omega,World.ownsRow_nil _ _ _ _,g8,jG⟩
 case round=>
  clear g8 jG;obtain⟨l,c,rfl,xU,eA,pA,Hi,hT,hK⟩:=hrel;by_cases hc:0<c
  ·obtain⟨ra,rc,rfl⟩:=Qea Hi;have GS:=hid Hi;clear Hi;go_wp2_with fail;refine(QUg B b 256 _ (by exact hT) (by omega) (by omega)).mono ?_;rintro e w3 ⟨x,rfl,x0,x1,Gj,H9⟩;have Hh:=Gj.lt;have GO:=H9.size;have Hu:Below w3.heap.size w3 (w3.alloc (.cells #[.int .i64 0,.int .i64 1,.int .i64 65,.int .i64 255,.int .i64 x] 3)):=Bq;have Mn:=Gj.new Hu;have hH:=Holds.new w3 (([0,1,65,255,x]:List Int).map (Value.int .i64)).toArray 3;have hc':∀(i:Nat) (h:i<([0,1,65,255,x]:List Int).length),(w3.alloc (.cells #[.int .i64 0,.int .i64 1,.int .i64 65,.int .i64 255,.int .i64 x] 3)).cell? ⟨w3.heap.size,0+i,none⟩=some (.int .i64 ([0,1,65,255,x]:List Int)[i]):=by
    intro i hi;rw[Nat.zero_add];exact(hH.cell i).trans (Q9h _ i hi)
   have hp:=hid (QSh B b w3.heap.size 0 5 [0,1,65,255,x] _ Mn (by simp) (by simp) (by omega) hc');have mi:=hid (Qbb (QSj GS.o hT (by decide) H9) Hu);have jG:=(hK.trans H9 (fun _ _ e=>e)).trans (Qaa.of_fresh Hu (fun i=>i=b)) (fun _ _ e=>e);clear Gj hH hc' hT hK H9 GS GO;go_wp2_with fail;refine(hp.o).mono ?_;rintro e w4 ⟨r,rfl,hr,mA,gW⟩;have Gz:0≤r∧r≤255:=by simp at hr;omega
   have Gs:=hid (QSj mi.o Mn (by decide) gW);have fN:=jG.trans gW (fun _ _ e=>e);have hlt5:=mA.lt;have gn:Below w4.heap.size w4 (w4.alloc (.cells #[.int .u8 r] 5)):=Bq;have M7:=mA.new gn;have Km:=hid (Qbb Gs.o gn);obtain⟨i0,hi,Hz,Ho,H4⟩:=info_parts QFj;have eQ:=Gz.1;have gi:=Gz.2;have mn:=fN.size;clear Mn mi hr jG gW hp Hu mA Gs;go_wp2_with(at_builtin;refine wpList_append_own _ rfl _ _ 88 rfl w.heap.size 5 i0 (.int .u8 0) 1 1 underlying88 hi Hz Ho H4 rfl (by decide) _ l.length (Lib.byteCells l) rfl (by exact Km.o) ⟨w4.heap.size,0,none⟩ 1 1 [.int .u8 r] rfl rfl ?c1 ?c2 ?c3 ?c4 ?c5 ?_)
   case c1=>exact Q8a _ _ _ _ rfl _ rfl
   case c2=>intro u hu;simp at hu;rcases hu with rfl;rfl
   case c3=>unfold maxLen;omega
   case c4=>omega
   case c5=>simp;omega
   intro v' w7 Hj Hd _;obtain⟨ra',rc',rfl⟩:=Qea Hj;have bM:QFb B w7 b:=M7.keeps (Qaa.of_grown Hd (S:=fun i=>(Value.slice ra l.length rc).ownBlock=some i) (fun _ e=>e)) (fun i e=>by
    obtain⟨cs,hH⟩:=M7.holds;exact⟨by have:=(Km.o.lt i e).1;omega,fun e2=>by subst e2;exact Qla Km.o hH (by decide) e⟩)
   have mE:Qaa (· = b) w w7:=(fN.trans (Qaa.of_fresh gn (fun i=>i=b)) (fun _ _ e=>e)).grown Hd (fun i e=>.inl (Km.o.lt i e).1);have HF:=hid (show w7.ownsRow w.heap.size 5 1 (.slice ra' (l.length+1) rc') (l++[r.toNat.toUInt8]).length (Lib.byteCells (l++[r.toNat.toUInt8]))from by
    rw[←Quh l r eQ gi,List.length_append,List.length_singleton];exact Hj)
   clear Hj Hd Km M7 fN gn;go_wp2_with fail;go_roundg (c-1).toNat
   case measure=>omega
   case rel=>
    exact⟨l++[r.toNat.toUInt8],c-1,rfl,by omega,by omega,by simp;omega,HF.o,bM,mE⟩
  have rd:¬c > 0:=by omega
  have Mf:=Q3c Hi;obtain⟨ra,rc,rfl⟩:=Qea Hi;go_wp2_with fail;go_ret;exact⟨_,rfl,by show l.toArray.size≤100;simp;omega,hT,hK⟩
def QXb(B b Z Rb:Nat)(v:Value)(T:List Qba)(W w:World):Prop:=
 QFb B w b∧Holds w Z #[v] 27∧Holds w Rb #[.slice none 0 0] 27∧Qoc w W.heap.size v T∧Qaa (fun i=>i=b) W w∧b<W.heap.size∧W.heap.size≤Z∧Rb≠Z
def Qre(B b Z Rb N M:Nat)(W w:World):Prop:=
 ∃a c T',Holds w Z #[.slice a T'.length c] 27∧Holds w Rb #[.slice none 0 0] 27∧Qda w W.heap.size (.slice a T'.length c) T'∧T'.length≤N∧(∀n∈T',n.props.length≤M)∧QFb B w b∧Qaa (fun i=>i=b) W w
section
variable{B b Z Rb N M:Nat}{v:Value}{T:List Qba}{W w w':World}
theorem QXb.new(h:QXb B b Z Rb v T W w)(k:Below w.heap.size w w'):QXb B b Z Rb v T W w':=by
 obtain⟨h1,h2,h3,h4,h5,h6⟩:=h;have kk:=Qaa.of_fresh k (fun _=>False);exact⟨h1.new k,h2.keeps kk (fun e=>e),h3.keeps kk (fun e=>e),h4.new k,h5.trans (Qaa.of_fresh k _) (fun _ _ e=>e),h6⟩
theorem QXb.call(h:QXb B b Z Rb v T W w)(hT:QFb B w' b)(k:Qaa (fun i=>i=b) w w'):QXb B b Z Rb v T W w':=by
 obtain⟨h1,h2,h3,h4,h5,h6⟩:=h;obtain⟨cs,hb⟩:=h1.holds;refine⟨hT,h2.keeps k (fun e=>QSa h2 hb (by decide) e),h3.keeps k (fun e=>QSa h3 hb (by decide) e),h4.keeps k (fun g e=>.inr ⟨cs,63,by subst e;exact hb,by decide,by decide⟩),h5.trans k (fun _ _ e=>e),h6⟩
theorem QXb.drew(h:QXb B b Z Rb v T W w):QXb B b Z Rb v T W w.drew:=h.call (h.1.keeps ((Qaa.refl (fun _=>False) w).drew) (fun _ e=>e.elim)) ((Qaa.refl _ w).drew)
theorem QXb.ends(h:QXb B b Z Rb v T W w)(hN:T.length≤N)(hM:∀n∈T,n.props.length≤M):Qre B b Z Rb N M W w:=by
 obtain⟨h1,h2,h3,h4,h5,_⟩:=h;obtain⟨a,c,rfl⟩:=h4.row.slice;exact⟨a,c,T,h2,h3,h4.row,hN,hM,h1,h5⟩
end
theorem QVf{w:World}{base b g n cap s:Nat}{e t:TypeId}{xs:List Value}{cs:Array Value}(hH:Holds w b cs t)(h:w.ownsRow base e s (.slice (some ⟨g,0,none⟩) n cap) n xs)(Hl:t≠e):b≠g:=fun x=>Qla h hH Hl (by rw[x];rfl)
theorem QXb.cell{B b Z Rb N M g cap k:Nat}{T T':List Qba}{W w:World}(h:QXb B b Z Rb (.slice (some ⟨g,0,none⟩) T.length cap) T W w)(x:Value)(hl:T'.length=T.length)(hN:T.length≤N)(hM:∀n∈T',n.props.length≤M)
 (hr:Qda (w.setCell ⟨g,k,none⟩ x) W.heap.size (.slice (some ⟨g,0,none⟩) T.length cap) T'):Qre B b Z Rb N M W (w.setCell ⟨g,k,none⟩ x):=by
 obtain⟨h1,h2,h3,h4,h5,h6,h7,h8⟩:=h;obtain⟨_,pvs,q1,q2,q3,q4,q5⟩:=h4;have ik:W.heap.size≤g:=(q2.lt g rfl).1;have dW:=h1.1;refine⟨some ⟨g,0,none⟩,cap,T',by rw[hl];exact h2.other _ _ (QVf h2 q2 (by decide)),h3.other _ _ (QVf h3 q2 (by decide)),by rw[hl];exact hr,by omega,hM,?_,h5.setCell (p:=⟨g,k,none⟩) (.inl ik) _⟩;exact h1.keeps ((Qaa.refl (fun i=>i=g) w).setCell (p:=⟨g,k,none⟩) (.inr rfl) x) (fun i e=>by subst e;omega)
theorem Qgf:∀(T:List Qba) (pvs:List Value) (k:Nat) (hk:k<T.length) (x:Int),pvs.length=T.length→
 Qpa (T.set k ⟨x,T[k].name,T[k].props⟩) pvs=(Qpa T pvs).set (k*3) (.int .i64 x)
 | n::T,p::pvs,0,_,_,_=>rfl
 | n::T,p::pvs,k+1,hk,x,h=>by
  have:=Qgf T pvs k (by simpa using hk) x (by simpa using h);rw[show(k+1)*3=k*3+1+1+1 from by omega];simp only[List.set_cons_succ,Qpa,List.getElem_cons_succ];rw[this]
theorem Qhf:∀(T:List Qba) (pvs:List Value) (k:Nat) (hk:k<T.length) (x:ByteArray),pvs.length=T.length→
 Qpa (T.set k ⟨T[k].parent,x,T[k].props⟩) pvs=(Qpa T pvs).set (k*3+1) (.string x)
 | n::T,p::pvs,0,_,_,_=>rfl
 | n::T,p::pvs,k+1,hk,x,h=>by
  have:=Qhf T pvs k (by simpa using hk) x (by simpa using h);rw[show(k+1)*3+1=k*3+1+1+1+1 from by omega];simp only[List.set_cons_succ,Qpa,List.getElem_cons_succ];rw[this]
theorem Qif:∀(T:List Qba) (pvs:List Value) (k:Nat),pvs.length=T.length→Qpa (T.take k) (pvs.take k)=(Qpa T pvs).take (k*3)
 | [],[],k,_=>by simp[Qpa]
 | n::T,p::pvs,0,_=>by simp[Qpa]
 | n::T,p::pvs,k+1,h=>by
  have:=Qif T pvs k (by simpa using h);rw[show(k+1)*3=k*3+1+1+1 from by omega];simp only[List.take_succ_cons,Qpa];rw[this]
theorem Qda.put01{w:World}{base g n cap:Nat}{T:List Qba}(h:Qda w base (.slice (some ⟨g,0,none⟩) n cap) T)(k:Nat)(hk:k<T.length)(nd:Qba)(kr:Qcc nd)(hp:nd.props=T[k].props)(o:Nat)(x:Value)
 (hc:∀pvs:List Value,pvs.length=T.length→Qpa (T.set k nd) pvs=(Qpa T pvs).set o x):Qda (w.setCell ⟨g,o,none⟩ x) base (.slice (some ⟨g,0,none⟩) n cap) (T.set k nd):=by
 obtain⟨pvs,h1,h2,h3,h4⟩:=h;have hn:n=T.length:=by
  rcases h2.2 with⟨e,_⟩|⟨_,_,_,e,_⟩
  ·cases e
  cases e;rfl
 subst hn;obtain⟨s1,s2⟩:=h2.stored o x;refine⟨pvs,by simpa using h1,?_,?_,?_⟩
 ·rw[hc pvs h1,List.length_set];exact s1
 ·intro j hj Ge;by_cases e:j=k
  ·subst e;simp only[List.getElem_set_self];rw[hp];exact(h3 j hk Ge).apart h2 s2 (by decide)
  rw[List.getElem_set_ne (fun x=>e x.symm)];exact(h3 j (by simpa using hj) Ge).apart h2 s2 (by decide)
 intro m hm;rcases List.mem_or_eq_of_mem_set hm with hm|rfl
 ·exact h4 m hm
 exact kr
theorem Qgg{T:List Qba}{M k:Nat}{nd:Qba}(h:∀n∈T,n.props.length≤M)(h2:nd.props.length≤M):∀n∈T.set k nd,n.props.length≤M:=fun n hn=>by
 rcases List.mem_or_eq_of_mem_set hn with hm|rfl
 ·exact h n hm
 exact h2
theorem QXb.parent{B b Z Rb N M g cap k:Nat}{T:List Qba}{W w:World}(h:QXb B b Z Rb (.slice (some ⟨g,0,none⟩) T.length cap) T W w)(hk:k<T.length)(hN:T.length≤N)(hM:∀n∈T,n.props.length≤M)(x:Int)(hx:-9223372036854775808≤x∧x≤9223372036854775807) :
 Qre B b Z Rb N M W (w.setCell ⟨g,k*3,none⟩ (.int .i64 x)):=by
 have hr:=h.2.2.2.1.row;obtain⟨_,_,_,_,h4⟩:=id hr;have kr:=h4 T[k] (List.getElem_mem hk);exact h.cell _ (T':=T.set k ⟨x,T[k].name,T[k].props⟩) (by simp) hN (Qgg hM (hM T[k] (List.getElem_mem hk))) (hr.put01 k hk ⟨x,T[k].name,T[k].props⟩ ⟨kr.1,hx.1,hx.2⟩ rfl _ _ (fun pvs hl=>Qgf T pvs k hk x hl))
theorem QXb.name{B b Z Rb N M g cap k:Nat}{T:List Qba}{W w:World}(h:QXb B b Z Rb (.slice (some ⟨g,0,none⟩) T.length cap) T W w)(hk:k<T.length)(hN:T.length≤N)(hM:∀n∈T,n.props.length≤M)(x:ByteArray)(hx:x.size≤9223372036854775807) :
 Qre B b Z Rb N M W (w.setCell ⟨g,k*3+1,none⟩ (.string x)):=by
 have hr:=h.2.2.2.1.row;obtain⟨_,_,_,_,h4⟩:=id hr;have kr:=h4 T[k] (List.getElem_mem hk);exact h.cell _ (T':=T.set k ⟨T[k].parent,x,T[k].props⟩) (by simp) hN (Qgg hM (hM T[k] (List.getElem_mem hk))) (hr.put01 k hk ⟨T[k].parent,x,T[k].props⟩ ⟨hx,kr.2.1,kr.2.2⟩ rfl _ _ (fun pvs hl=>Qhf T pvs k hk x hl))
theorem QXb.prop{B b Z Rb N M g cap k:Nat}{T:List Qba}{W w:World}(h:QXb B b Z Rb (.slice (some ⟨g,0,none⟩) T.length cap) T W w)(hk:k<T.length)(hN:T.length≤N)(hM:∀n∈T,n.props.length+1≤M) :
 ∃pa pc,w.cell? ⟨g,k*3+2,none⟩=some (.slice pa T[k].props.length pc)∧w.frozen? ⟨g,k*3+2,none⟩=false∧g<w.heap.size∧Qna w W.heap.size (.slice pa T[k].props.length pc) T[k].props∧
  ∀(w':World) (rv:Value) (qs:List Qqa),Qna w' W.heap.size rv qs→qs.length≤M→Qaa (fun b=>(Value.slice pa T[k].props.length pc).ownBlock=some b) w w'→
   w'.cell? ⟨g,k*3+2,none⟩=some (.slice pa T[k].props.length pc)∧w'.frozen? ⟨g,k*3+2,none⟩=false∧g<w'.heap.size∧Qre B b Z Rb N M W (w'.setCell ⟨g,k*3+2,none⟩ rv):=by
 obtain⟨h1,h2,h3,h4,h5,h6,h7,h8⟩:=h;obtain⟨pv,p0,Gm,JI,GG,gB,G8⟩:=h4.put k hk;obtain⟨pa,pc,rfl⟩:=Qea Gm.1;have oW:=(gB w (Qaa.refl _ w)).2;refine⟨pa,pc,p0,oW,GG,Gm,fun w' rv qs hq hql kk=>?_⟩;obtain⟨k1,k2⟩:=gB w' kk;have ik:W.heap.size≤g:=by
  obtain⟨_,pvs,q1,q2,q3,q4,q5⟩:=h4;exact(q2.lt g rfl).1
 have Am:∃cs,Holds w g cs 46:=by
  obtain⟨_,pvs,q1,q2,q3,q4,q5⟩:=h4;exact(Qob q2 rfl).2
 obtain⟨cn,df⟩:=Am;have ub:=QSa h2 df (by decide);have tN:=QSa h3 df (by decide);have Hi:∀i,(Value.slice pa T[k].props.length pc).ownBlock=some i→W.heap.size≤i∧∃cur,Holds w i cur 49:=fun i e=>Qic Gm.1 e;have oF:(Value.slice pa T[k].props.length pc).ownBlock≠some Z:=fun e=>Qla Gm.1 h2 (by decide) e;have zW:(Value.slice pa T[k].props.length pc).ownBlock≠some Rb:=fun e=>Qla Gm.1 h3 (by decide) e;have dW:=h1.1;have ht:=G8 w' rv qs hq kk;refine⟨k1,k2,Nat.lt_of_lt_of_le GG kk.size,some ⟨g,0,none⟩,cap,T.set k ⟨T[k].parent,T[k].name,qs⟩,?_,?_,?_,by simpa using hN,?_,?_,?_⟩
 ·rw[List.length_set];exact(h2.keeps kk oF).other _ _ ub
 ·exact(h3.keeps kk zW).other _ _ tN
 ·rw[List.length_set];exact ht
 ·exact Qgg (fun n hn=>by have:=hM n hn;omega) hql
 ·have t1:=h1.keeps kk (fun i e=>by have:=(Hi i e).1;omega);exact t1.keeps ((Qaa.refl (fun i=>i=g) w').setCell (p:=⟨g,k*3+2,none⟩) (.inr rfl) rv) (fun i e=>by subst e;omega)
 exact(h5.trans kk (fun i hi e=>by have:=(Hi i e).1;omega)).setCell (p:=⟨g,k*3+2,none⟩) (.inl ik) rv
theorem QGq{w:World}{base base':Nat}{e e':TypeId}{size:Nat}{v:Value}{n:Nat}{xs ys:List Value}(h:w.ownsRow base e size v n xs)(k:w.ownsRow base' e' size v n ys):xs=ys:=by
 rcases h.2 with⟨rfl,h0⟩|⟨g,cap,cur,rfl,_,hh,_,_,_,ht⟩
 ·have e1:=h.1;have e2:=k.1;rw[h0]at e1 e2;simp only[Nat.zero_mul]at e1 e2;rw[List.length_eq_zero_iff.1 e1,List.length_eq_zero_iff.1 e2]
 rcases k.2 with⟨hc,_⟩|⟨g',cap',cur',hc,_,hh',_,_,_,ht'⟩
 ·cases hc
 cases hc;rw[hh]at hh';cases hh';rw[←ht,←ht']
theorem QXb.node{B b Z Rb N M g cap:Nat}{T:List Qba}{W w w3 w':World}{cs:Array Value}{v' pv:Value}{nd:Qba}(h:QXb B b Z Rb (.slice (some ⟨g,0,none⟩) T.length cap) T W w)(h3w:w3=w.alloc (.cells cs 46))(hN:T.length+1≤N)(hM:∀n∈T,n.props.length≤M)(hMd:nd.props.length≤M)
 (hp:Qna w W.heap.size pv nd.props) (hn:Qcc nd)
 {xs:List Value} (iM:w.ownsRow W.heap.size 46 3 (.slice (some ⟨g,0,none⟩) T.length cap) T.length xs) (Hi:w'.ownsRow W.heap.size 46 3 v' (T.length+1) (xs++[.int .i64 nd.parent,.string nd.name,pv])) (hg:w3.grownBy w' (some g)) :
 Z<w'.heap.size∧w'.frozen? ⟨Z,0,none⟩=false∧w'.cell? ⟨Z,0,none⟩=some (.slice (some ⟨g,0,none⟩) T.length cap)∧Qre B b Z Rb N M W (w'.setCell ⟨Z,0,none⟩ v'):=by
 obtain⟨h1,h2,h3,h4,h5,h6,h7,h8⟩:=h;obtain⟨_,pvs,q1,q2,q3,q4,q5⟩:=h4;have hb:Below w.heap.size w w3:=by rw[h3w];exact Bq
 have kb:=Qaa.of_fresh hb (fun _=>False);have q2':=Qbb q2 hb;have hg':w3.grownBy w' (Value.slice (some ⟨g,0,none⟩) T.length cap).ownBlock:=hg;have g2:=(h2.keeps kb (fun e=>e)).grown hg' (Qla q2 h2 (by decide));have g3:=(h3.keeps kb (fun e=>e)).grown hg' (Qla q2 h3 (by decide));have ik:W.heap.size≤g:=(q2.lt g rfl).1;have hR:Qda w' W.heap.size v' (T++[nd]):=Qda.more q1 q2' (fun j a c=>(q3 j a c).new hb) q4 (hp.new hb) hn (by rw[QGq q2 iM];exact Hi) hg';obtain⟨a,c,rfl⟩:=hR.slice;have hR':=hR.set g2 (by decide) (by decide) 0 (.slice a (T++[nd]).length c);have dW:=h1.1;have hK:Qaa (fun i=>i=b) W w':=by
  have k0:=h5.trans (Qaa.of_fresh hb (fun i=>i=b)) (fun _ _ e=>e);exact k0.trans (Qaa.of_grown hg' (S:=fun i=>i=g) (fun i e=>(Option.some.inj e).symm)) (fun i hi e=>by omega)
 have hT':QFb B w' b:=(h1.new hb).keeps (Qaa.of_grown hg' (S:=fun i=>i=g) (fun i e=>(Option.some.inj e).symm)) (fun i e=>by subst e;omega);refine⟨g2.lt,g2.free 0,g2.cell 0,a,c,T++[nd],g2.set 0 _,?_,hR',by simpa using hN,?_,?_,?_⟩
 ·exact g3.other _ _ h8
 ·intro n hn;rcases List.mem_append.1 hn with hn|hn
  ·exact hM n hn
  simp at hn;subst hn;exact hMd
 ·exact hT'.keeps ((Qaa.refl (fun i=>i=Z) w').setCell (p:=⟨Z,0,none⟩) (.inr rfl) _) (fun i e=>by subst e;omega)
 exact hK.setCell (p:=⟨Z,0,none⟩) (.inl h7) _
theorem QXb.cut{B b Z Rb N M g cap k:Nat}{T:List Qba}{W w:World}(h:QXb B b Z Rb (.slice (some ⟨g,0,none⟩) T.length cap) T W w)(hk:k≤T.length)(hN:T.length≤N)(hM:∀n∈T,n.props.length≤M) :
 Qre B b Z Rb N M W (w.setCell ⟨Z,0,none⟩ (.slice (some ⟨g,0,none⟩) k cap)):=by
 obtain⟨h1,h2,h3,h4,h5,h6,h7,h8⟩:=h;obtain⟨_,pvs,q1,q2,q3,q4,q5⟩:=h4;have dW:=h1.1;have hl:=QXc T pvs q1;have Ah:Qpa (T.take k) (pvs.take k)=(Qpa T pvs).take (k*3):=Qif T pvs k q1;have Kq:(T.take k).length=k:=by simp;omega
 have hR:Qda w W.heap.size (.slice (some ⟨g,0,none⟩) k cap) (T.take k):=by
  refine⟨pvs.take k,by simp;omega,?_,fun j a c=>?_,fun n hn=>q4 n (List.mem_of_mem_take hn)⟩
  ·rw[Ah,Kq];rcases q2.2 with⟨e,_⟩|⟨g',cap',cur,e,hb,hh,hc,hm,hs,ht⟩
   ·cases e
   cases e;refine⟨by rw[List.length_take,hl];omega,.inr ⟨g,cap,cur,rfl,hb,hh,by omega,hm,hs,?_⟩⟩;rw[←ht,List.take_take];congr 1;omega
  simp only[List.getElem_take];exact q3 j (by simp at a;omega) (by simp at c;omega)
 refine⟨some ⟨g,0,none⟩,cap,T.take k,by rw[Kq];exact h2.set 0 _,h3.other _ _ h8,by rw[Kq];exact hR.set h2 (by decide) (by decide) 0 _,by omega,fun n hn=>hM n (List.mem_of_mem_take hn),?_,h5.setCell (p:=⟨Z,0,none⟩) (.inl h7) _⟩;exact h1.keeps ((Qaa.refl (fun i=>i=Z) w).setCell (p:=⟨Z,0,none⟩) (.inr rfl) _) (fun i e=>by subst e;omega)
theorem Qff:∀(T:List Qba) (pvs:List Value) (k:Nat) (hk:k<T.length) (qs:List Qqa),pvs.length=T.length→Qpa (T.set k ⟨T[k].parent,T[k].name,qs⟩) pvs=Qpa T pvs
 | n::T,p::pvs,0,_,_,_=>rfl
 | n::T,p::pvs,k+1,hk,qs,h=>by
  have:=Qff T pvs k (by simpa using hk) qs (by simpa using h);simp only[List.set_cons_succ,Qpa,List.getElem_cons_succ];rw[this]
theorem QXb.row{B b Z Rb N M g cap k:Nat}{T:List Qba}{W w:World}(h:QXb B b Z Rb (.slice (some ⟨g,0,none⟩) T.length cap) T W w)(hk:k<T.length)(hN:T.length≤N)(hM:∀n∈T,n.props.length≤M) :
 ∃pa pc,w.cell? ⟨g,k*3+2,none⟩=some (.slice pa T[k].props.length pc)∧g<w.heap.size∧Qna w W.heap.size (.slice pa T[k].props.length pc) T[k].props∧
  ∀(w':World) (qs:List Qqa),Qna w' W.heap.size (.slice pa T[k].props.length pc) qs→qs.length≤M→Qaa (fun b=>(Value.slice pa T[k].props.length pc).ownBlock=some b) w w'→Qre B b Z Rb N M W w':=by
 obtain⟨h1,h2,h3,h4,h5,h6,h7,h8⟩:=h;obtain⟨pv,p0,Gm,JI,GG,gB,G8⟩:=h4.put k hk;obtain⟨pa,pc,rfl⟩:=Qea Gm.1;refine⟨pa,pc,p0,GG,Gm,fun w' qs hq hql kk=>?_⟩;obtain⟨_,pvs,q1,q2,q3,q4,q5⟩:=h4;have Hi:∀i,(Value.slice pa T[k].props.length pc).ownBlock=some i→W.heap.size≤i∧∃cur,Holds w i cur 49:=fun i e=>Qic Gm.1 e;have dW:=h1.1;have e2:pvs[k]'(by omega)=.slice pa T[k].props.length pc:=by
  obtain⟨_,_,a2⟩:=Qmc T pvs k hk (by omega) q1;have:=(q2.cellAt (k*3+2) (by omega)).trans a2;rw[p0]at this;exact(Option.some.inj this).symm
 refine⟨some ⟨g,0,none⟩,cap,T.set k ⟨T[k].parent,T[k].name,qs⟩,?_,h3.keeps kk (fun e=>Qla Gm.1 h3 (by decide) e),?_,by simpa using hN,Qgg hM hql,?_,?_⟩
 ·rw[List.length_set];exact h2.keeps kk (fun e=>Qla Gm.1 h2 (by decide) e)
 ·rw[List.length_set];refine⟨pvs,by simpa using q1,?_,fun j a c=>?_,fun m hm=>?_⟩
  ·rw[Qff T pvs k hk qs q1,List.length_set];exact Qca q2 kk (fun i e x=>JI (x.trans e.symm))
  ·by_cases e:j=k
   ·subst e;simp only[List.getElem_set_self];rw[e2];exact hq
   rw[List.getElem_set_ne (fun x=>e x.symm)];have ha:j<T.length:=by simpa using a
   exact⟨Qca (q3 j ha c).1 kk (fun i hi x=>by
    rw[←e2]at x;exact q5.1 j k c (by omega) e i hi x),(q3 j ha c).2⟩
  rcases List.mem_or_eq_of_mem_set hm with hm|rfl
  ·exact q4 m hm
  exact q4 T[k] (List.getElem_mem hk)
 ·exact h1.keeps kk (fun i e=>by have:=(Hi i e).1;omega)
 exact h5.trans kk (fun i hi e=>by have:=(Hi i e).1;omega)
def QHf:Code→Nat→Option Code
 | .region i ops d,n=>if i=n then some (.region i ops d)else none
 | .seq a b,n=>match QHf a n with
  | some x=>some x
  | none=>QHf b n
 | .cond _ a b,n=>match QHf a n with
  | some x=>some x
  | none=>QHf b n
 | .block _ b,n=>QHf b n
 | .loop b,n=>QHf b n
 | .scope b,n=>QHf b n
 | .rangeFunc _ _ a b,n=>match QHf a n with
  | some x=>some x
  | none=>QHf b n
 | _,_=>none
theorem Qli{P:Program}{c:Code}{Q:Exit→Act→World→Prop}{a:Act}{w:World}(h:c.wp P (Exit.then (Q .normal) (fun _ _ _=>False)) a w):c.wp P Q a w:=by
 refine wp_mono h (fun e a w hq=>?_);cases e with
 | normal=>exact hq
 | _=>exact hq.elim
noncomputable def Qxf(n:Nat):Code:=(QHf (Tryz.f25.body.getD .skip) n).getD .skip
theorem Qoo{s:ByteArray}(h:s∈QLc):Qod ⟨s,⟨#[]⟩⟩:=by
 have:∀x∈QLc,x.size≤9223372036854775807:=by decide
 exact⟨this s h,by show(0:Nat)≤_;omega⟩
theorem Qch{B b Z Rb N M g cap k:Nat}{T:List Qba}{W w:World}{pa:Option Addr}{pc:Nat}(h:QXb B b Z Rb (.slice (some ⟨g,0,none⟩) T.length cap) T W w)(hk:k<T.length)(hN:T.length≤N)(hM:∀n∈T,n.props.length+1≤M)
 (hc:w.cell? ⟨g,k*3+2,none⟩=some (.slice pa T[k].props.length pc)) (s v:ByteArray) (hp:Qod ⟨s,v⟩) :
 Hid ((w.alloc (.cells #[.string s,.string v] 49)).ownsRow W.heap.size 49 2 (.slice pa T[k].props.length pc) T[k].props.length (Qfa T[k].props)∧
  ∀(v8:Value) (w8:World),w8.ownsRow W.heap.size 49 2 v8 (T[k].props.length+1) (Qfa T[k].props++[.string s,.string v])→(w.alloc (.cells #[.string s,.string v] 49)).grownBy w8 (Value.slice pa T[k].props.length pc).ownBlock→
   w8.cell? ⟨g,k*3+2,none⟩=some (.slice pa T[k].props.length pc)∧w8.frozen? ⟨g,k*3+2,none⟩=false∧g<w8.heap.size∧Qre B b Z Rb N M W (w8.setCell ⟨g,k*3+2,none⟩ v8)):=by
 obtain⟨pa',pc',c0,c1,GG,Gm,gD⟩:=h.prop hk hN hM;rw[hc]at c0;cases c0;have hb:Below w.heap.size w (w.alloc (.cells #[.string s,.string v] 49)):=Bq;refine hid ⟨(Gm.new hb).1,fun v8 w8 Hi hg=>?_⟩;refine gD w8 v8 (T[k].props++[⟨s,v⟩]) ⟨?_,fun q hq=>?_⟩ ?_ ?_
 ·rw[Qde,List.length_append];exact Hi
 ·rcases List.mem_append.1 hq with hq|hq
  ·exact Gm.2 q hq
  simp at hq;subst hq;exact hp
 ·have:=hM T[k] (List.getElem_mem hk);simpa using this
 exact(Qaa.of_fresh hb _).trans (Qaa.of_grown hg (fun _ e=>e)) (fun _ _ e=>e)
theorem Qsr{Q:Exit→Act→World→Prop}(B b Z Rb N M g cap k:Nat)(T:List Qba)(W w:World)(hk:k<T.length)(hN:T.length+1≤N)(_:N≤1000)(hM:∀n∈T,n.props.length+1≤M)(kE:M≤1000){u1 u2 u3 u4 u6 u7 u10 u11 u12 u13 u14 u15 u16 u17 u18 u19 u20 u21 u22 u23 u24 u25 u26 u27 u28 u29 u30 u31 u32 u33 u34 u35 u36 u37 u38 u39 u40 u41 u42 u43 u44 u45 u46 u47 u48 u49 u50 u51 u52 u53 u54 u55 u56 u57 u58 u59 u60 u61 u62 u63 u64 u65 u66 u67 u68 u69 u70 u71 u72 u73 u74 u75 u76 u77 u78 u79 u80 u81 u82 u83 u84 u85 u86 u87 u88 u89 u90 u91 u92 u93 u94 u95 u96 u97 u98 u99 u100 u101 u102 u103 u104 u105 u106 u107 u108 u109 u110 u111 u112 u113 u114 u115 u116 u117 u118 u119 u120 u121 u122 u123 u124 u125 u126 u127 u128 u129 u130 u131 u132 u133 u134 u135 u136 u137 u138 u139 u140 u141 u142 u143 u144 u145 u146 u147 u148 u149 u150 u151 u152 u153 u154 u155 u156 u157 u158 u159 u160 u161 u162 u163 u164 u165 u166 u167 u168 u169 u170 u171 u172:Value}
 (hB:Hid (QXb B b Z Rb (.slice (some ⟨g,0,none⟩) T.length cap) T W w)) (hQ:Hid (∀(x74 x75 x76 x77 x78 x79 x80 x81 x82 x83 x84 x85:Value) (wx:World),Qre B b Z Rb N M W wx→Q .normal ⟨#[.pointer (some ⟨b,0,none⟩),u1,u2,u3,u4,.pointer (some ⟨Z,0,none⟩),u6,u7,.int .i64 k,.pointer (some ⟨g,k*3,none⟩),u10,u11,u12,u13,u14,u15,u16,u17,u18,u19,u20,u21,u22,u23,u24,u25,u26,u27,u28,u29,u30,u31,u32,u33,u34,u35,u36,u37,u38,u39,u40,u41,u42,u43,u44,u45,u46,u47,u48,u49,u50,u51,u52,u53,u54,u55,u56,u57,u58,u59,u60,u61,u62,u63,u64,u65,u66,u67,u68,u69,u70,u71,u72,u73,x74,x75,x76,x77,x78,x79,x80,x81,x82,x83,x84,x85,u86,u87,u88,u89,u90,u91,u92,u93,u94,u95,u96,u97,u98,u99,u100,u101,u102,u103,u104,u105,u106,u107,u108,u109,u110,u111,u112,u113,u114,u115,u116,u117,u118,u119,u120,u121,u122,u123,u124,u125,u126,u127,u128,u129,u130,u131,u132,u133,u134,u135,u136,u137,u138,u139,u140,u141,u142,u143,u144,u145,u146,u147,u148,u149,u150,u151,u152,u153,u154,u155,u156,u157,u158,u159,u160,u161,u162,u163,u164,u165,u166,u167,u168,u169,u170,u171,u172],[]⟩ wx)) :
 (Qxf 19).wp prog Q ⟨#[.pointer (some ⟨b,0,none⟩),u1,u2,u3,u4,.pointer (some ⟨Z,0,none⟩),u6,u7,.int .i64 k,.pointer (some ⟨g,k*3,none⟩),u10,u11,u12,u13,u14,u15,u16,u17,u18,u19,u20,u21,u22,u23,u24,u25,u26,u27,u28,u29,u30,u31,u32,u33,u34,u35,u36,u37,u38,u39,u40,u41,u42,u43,u44,u45,u46,u47,u48,u49,u50,u51,u52,u53,u54,u55,u56,u57,u58,u59,u60,u61,u62,u63,u64,u65,u66,u67,u68,u69,u70,u71,u72,u73,u74,u75,u76,u77,u78,u79,u80,u81,u82,u83,u84,u85,u86,u87,u88,u89,u90,u91,u92,u93,u94,u95,u96,u97,u98,u99,u100,u101,u102,u103,u104,u105,u106,u107,u108,u109,u110,u111,u112,u113,u114,u115,u116,u117,u118,u119,u120,u121,u122,u123,u124,u125,u126,u127,u128,u129,u130,u131,u132,u133,u134,u135,u136,u137,u138,u139,u140,u141,u142,u143,u144,u145,u146,u147,u148,u149,u150,u151,u152,u153,u154,u155,u156,u157,u158,u159,u160,u161,u162,u163,u164,u165,u166,u167,u168,u169,u170,u171,u172],[]⟩ w:=by
 refine Qli ?_;simp only[Qxf,QHf,Tryz.f25,Option.getD_some,reduceIte,Nat.reduceEqDiff];have gz:=hM T[k] (List.getElem_mem hk);obtain⟨pa,pc,c0,c1,GG,Gm,gD⟩:=hB.o.prop hk (by omega:T.length≤N) hM;have Ki:QFb B w.drew b:=hB.o.drew.1;obtain⟨cst,bO⟩:=hB.o.1.holds;have aJ:g≠b:=by
  obtain⟨_,_,_,⟨_,pvs,q1,q2,q3,q4,q5⟩,_⟩:=hB.o;exact(QVf bO q2 (by decide)).symm
 obtain⟨i0,hi,Hz,Ho,H4⟩:=info_parts QGc;have sM:=hid Ki;clear gD Gm Ki bO
 go_region_law (first
  | (go_simp;go_at_call 31;refine(Q6d B b _ (by exact sM.o)).mono ?_;rintro e w2 ⟨s,rfl,K5,g8,H3⟩;have Kz:Qaa (fun i=>i=b) w w2:=((Qaa.refl (fun i=>i=b) w).drew).trans H3 (fun _ _ e=>e);have h2:=hB.o.call g8 Kz;have d0:=(Kz.cell (p:=⟨g,k*3+2,none⟩) GG aJ).trans c0;have d1:=(Kz.frozen (p:=⟨g,k*3+2,none⟩) GG aJ).trans c1;have dr:=Nat.lt_of_lt_of_le GG Kz.size;have kH:=Qch h2 hk (by omega:T.length≤N) hM d0 s ⟨#[]⟩ (Qoo K5))
  | (refine step_append_lies _ (by rfl) _ _ _ (by rfl) W.heap.size 49 i0 _ 2 32 underlying44 hi Hz Ho H4 rfl (by omega) _ T[k].props.length (Qfa T[k].props) (by rfl) kH.o.1 ⟨w2.heap.size,0,none⟩ 1 1 [.string s,.string ⟨#[]⟩] (by rfl) (by rfl) (World.news_of_block (cs:=#[.string s,.string ⟨#[]⟩]) (t:=49) (fr:=(0,0)) (heap_alloc_new w2 _)) (by simp[Value.oneCell']) (by omega) (by unfold maxLen;omega) (by omega) (by have:=h2.2.2.2.2.1.size;simp;omega) (w2.heap.size+1) (by simp) ?_;intro gg cap2 w8 gO Hd gj jw;obtain⟨m0,m1,m2,hE⟩:=kH.o.2 _ w8 gO Hd))
 all_goals
  go_wp2_with fail;exact hQ.o _ _ _ _ _ _ _ _ _ _ _ _ _ hE
def QBe:List ByteArray:=[⟨#[]⟩,⟨#[97,64,49]⟩,⟨#[49]⟩,⟨#[122,122]⟩]
theorem Q3h{s:ByteArray}(h:s∈QBe):Qod ⟨s,⟨#[]⟩⟩:=by
 have:∀x∈QBe,x.size≤9223372036854775807:=by decide
 exact⟨this s h,by show(0:Nat)≤_;omega⟩
theorem Qpi{g o:Nat}(w:World)(ob:Obj)(h:g<w.heap.size):(w.alloc ob).cell? ⟨g,o,none⟩=w.cell? ⟨g,o,none⟩:=((Below.refl w.heap.size w).alloc (Nat.le_refl _) ob).cell (p:=⟨g,o,none⟩) h
theorem Qtr{Q:Exit→Act→World→Prop}(B b Z Rb N M g cap k:Nat)(T:List Qba)(W w:World)(hk:k<T.length)(hN:T.length+1≤N)(_:N≤1000)(hM:∀n∈T,n.props.length+1≤M)(kE:M≤1000){u1 u2 u3 u4 u6 u7 u10 u11 u12 u13 u14 u15 u16 u17 u18 u19 u20 u21 u22 u23 u24 u25 u26 u27 u28 u29 u30 u31 u32 u33 u34 u35 u36 u37 u38 u39 u40 u41 u42 u43 u44 u45 u46 u47 u48 u49 u50 u51 u52 u53 u54 u55 u56 u57 u58 u59 u60 u61 u62 u63 u64 u65 u66 u67 u68 u69 u70 u71 u72 u73 u74 u75 u76 u77 u78 u79 u80 u81 u82 u83 u84 u85 u86 u87 u88 u89 u90 u91 u92 u93 u94 u95 u96 u97 u98 u99 u100 u101 u102 u103 u104 u105 u106 u107 u108 u109 u110 u111 u112 u113 u114 u115 u116 u117 u118 u119 u120 u121 u122 u123 u124 u125 u126 u127 u128 u129 u130 u131 u132 u133 u134 u135 u136 u137 u138 u139 u140 u141 u142 u143 u144 u145 u146 u147 u148 u149 u150 u151 u152 u153 u154 u155 u156 u157 u158 u159 u160 u161 u162 u163 u164 u165 u166 u167 u168 u169 u170 u171 u172:Value}
 (hB:Hid (QXb B b Z Rb (.slice (some ⟨g,0,none⟩) T.length cap) T W w)) (hQ:Hid (∀(x88 x89 x90 x91 x92 x93 x94 x95 x96 x97 x98 x99 x100 x101 x102:Value) (wx:World),Qre B b Z Rb N M W wx→Q .normal ⟨#[.pointer (some ⟨b,0,none⟩),u1,u2,u3,u4,.pointer (some ⟨Z,0,none⟩),u6,u7,.int .i64 k,.pointer (some ⟨g,k*3,none⟩),u10,u11,u12,u13,u14,u15,u16,u17,u18,u19,u20,u21,u22,u23,u24,u25,u26,u27,u28,u29,u30,u31,u32,u33,u34,u35,u36,u37,u38,u39,u40,u41,u42,u43,u44,u45,u46,u47,u48,u49,u50,u51,u52,u53,u54,u55,u56,u57,u58,u59,u60,u61,u62,u63,u64,u65,u66,u67,u68,u69,u70,u71,u72,u73,u74,u75,u76,u77,u78,u79,u80,u81,u82,u83,u84,u85,u86,u87,x88,x89,x90,x91,x92,x93,x94,x95,x96,x97,x98,x99,x100,x101,x102,u103,u104,u105,u106,u107,u108,u109,u110,u111,u112,u113,u114,u115,u116,u117,u118,u119,u120,u121,u122,u123,u124,u125,u126,u127,u128,u129,u130,u131,u132,u133,u134,u135,u136,u137,u138,u139,u140,u141,u142,u143,u144,u145,u146,u147,u148,u149,u150,u151,u152,u153,u154,u155,u156,u157,u158,u159,u160,u161,u162,u163,u164,u165,u166,u167,u168,u169,u170,u171,u172],[]⟩ wx)) :
 (Qxf 21).wp prog Q ⟨#[.pointer (some ⟨b,0,none⟩),u1,u2,u3,u4,.pointer (some ⟨Z,0,none⟩),u6,u7,.int .i64 k,.pointer (some ⟨g,k*3,none⟩),u10,u11,u12,u13,u14,u15,u16,u17,u18,u19,u20,u21,u22,u23,u24,u25,u26,u27,u28,u29,u30,u31,u32,u33,u34,u35,u36,u37,u38,u39,u40,u41,u42,u43,u44,u45,u46,u47,u48,u49,u50,u51,u52,u53,u54,u55,u56,u57,u58,u59,u60,u61,u62,u63,u64,u65,u66,u67,u68,u69,u70,u71,u72,u73,u74,u75,u76,u77,u78,u79,u80,u81,u82,u83,u84,u85,u86,u87,u88,u89,u90,u91,u92,u93,u94,u95,u96,u97,u98,u99,u100,u101,u102,u103,u104,u105,u106,u107,u108,u109,u110,u111,u112,u113,u114,u115,u116,u117,u118,u119,u120,u121,u122,u123,u124,u125,u126,u127,u128,u129,u130,u131,u132,u133,u134,u135,u136,u137,u138,u139,u140,u141,u142,u143,u144,u145,u146,u147,u148,u149,u150,u151,u152,u153,u154,u155,u156,u157,u158,u159,u160,u161,u162,u163,u164,u165,u166,u167,u168,u169,u170,u171,u172],[]⟩ w:=by
 refine Qli ?_;simp only[Qxf,QHf,Tryz.f25,Option.getD_some,reduceIte,Nat.reduceEqDiff];have gz:=hM T[k] (List.getElem_mem hk);obtain⟨pa,pc,c0,c1,GG,Gm,gD⟩:=hB.o.prop hk (by omega:T.length≤N) hM;have Ki:QFb B w.drew b:=hB.o.drew.1;have GU:QFb B (w.drew.alloc (.cells (QBe.map Value.string).toArray 9)) b:=Ki.new (Bq);have xy:=Holds.new w.drew (QBe.map Value.string).toArray 9;have Jg:=hB.o.1.lt;obtain⟨cst,bO⟩:=hB.o.1.holds;have aJ:g≠b:=by
  obtain⟨_,_,_,⟨_,pvs,q1,q2,q3,q4,q5⟩,_⟩:=hB.o;exact(QVf bO q2 (by decide)).symm
 obtain⟨i0,hi,Hz,Ho,H4⟩:=info_parts QGc;have sM:=hid Ki;have Mb:=hid GU;have wh:=hid xy;have M8:QBe.length=4:=rfl;clear gD Gm Ki bO GU xy
 go_region_law (first
  | (go_simp;go_at_call 27;refine(QUg B b 4 _ (by first|exact sM.o|exact Mb.o) (by omega) (by omega)).mono ?_;rintro e w2 ⟨q,rfl,q0,q1,g8,H3⟩;obtain⟨q,rfl⟩:=Int.eq_ofNat_of_zero_le q0;obtain⟨s,Gn,K5⟩:=QIc QBe q (by omega);have Gx:(QBe.map Value.string)[q]? = some (.string s):=(by simp[Gn]);simp only[QBe,List.map_cons,List.map_nil]at Gx;have Kz:Qaa (fun i=>i=b) w w2:=(by first|exact((Qaa.refl (fun i=>i=b) w).drew).trans H3 (fun _ _ e=>e) | exact(((Qaa.refl (fun i=>i=b) w).drew).alloc _).trans H3 (fun _ _ e=>e));have h2:=hB.o.call g8 Kz;have h2':=h2.new ((Below.refl w2.heap.size w2).alloc (Nat.le_refl _) (.cells (QBe.map Value.string).toArray 9));have d0:=(Kz.cell (p:=⟨g,k*3+2,none⟩) GG aJ).trans c0;have d1:=(Kz.frozen (p:=⟨g,k*3+2,none⟩) GG aJ).trans c1;have dr:=Nat.lt_of_lt_of_le GG Kz.size;have kF:(w2.alloc (.cells (QBe.map Value.string).toArray 9)).cell? ⟨w2.heap.size,q,none⟩=some (.string s):=((Holds.new w2 (QBe.map Value.string).toArray 9).cell q).trans (by simp[Gn]);(try have hcl1:w2.cell? ⟨w.heap.size,q,none⟩=some (.string s):=((wh.o.keeps H3 (by show ¬w.heap.size=b;omega)).cell q).trans (by simp[Gn]));(try have hsl1:w.heap.size<w2.heap.size:=(wh.o.keeps H3 (by show ¬w.heap.size=b;omega)).lt);have kH:=Qch h2 hk (by omega:T.length≤N) hM d0 s ⟨#[]⟩ (Q3h K5);have eT:=Qch h2' hk (by omega:T.length≤N) hM ((Qpi w2 _ dr).trans d0) s ⟨#[]⟩ (Q3h K5))
  | (refine step_append_lies _ (by rfl) _ _ _ (by rfl) W.heap.size 49 i0 _ 2 32 underlying44 hi Hz Ho H4 rfl (by omega) _ T[k].props.length (Qfa T[k].props) (by rfl) kH.o.1 ⟨w2.heap.size,0,none⟩ 1 1 [.string s,.string ⟨#[]⟩] (by rfl) (by rfl) (World.news_of_block (cs:=#[.string s,.string ⟨#[]⟩]) (t:=49) (fr:=(0,0)) (heap_alloc_new w2 _)) (by simp[Value.oneCell']) (by omega) (by unfold maxLen;omega) (by omega) (by have:=h2.2.2.2.2.1.size;simp;omega) (w2.heap.size+1) (by simp) ?_;intro gg cap2 w8 gO Hd gj jw;obtain⟨m0,m1,m2,hE⟩:=kH.o.2 _ w8 gO Hd)
  | (refine step_append_lies _ (by rfl) _ _ _ (by rfl) W.heap.size 49 i0 _ 2 32 underlying44 hi Hz Ho H4 rfl (by omega) _ T[k].props.length (Qfa T[k].props) (by rfl) eT.o.1 ⟨w2.heap.size+1,0,none⟩ 1 1 [.string s,.string ⟨#[]⟩] (by rfl) (by rfl) (by exact Q8a _ _ _ (w2.heap.size+1) (by simp) _ rfl) (by simp[Value.oneCell']) (by omega) (by unfold maxLen;omega) (by omega) (by have:=h2.2.2.2.2.1.size;simp;omega) (w2.heap.size+1+1) (by simp) ?_;intro gg cap2 w8 gO Hd gj jw;obtain⟨m0,m1,m2,hE⟩:=eT.o.2 _ w8 gO Hd))
 all_goals
  go_wp2_with fail;exact hQ.o _ _ _ _ _ _ _ _ _ _ _ _ _ _ _ _ hE
theorem Q6o{B b Z Rb N M g cap k:Nat}{T:List Qba}{W w:World}(h:QXb B b Z Rb (.slice (some ⟨g,0,none⟩) T.length cap) T W w)(hk:k<T.length)(hN:T.length+1≤N)(hM:∀n∈T,n.props.length≤M) :
 ∃pa pc,w.cell? ⟨g,k*3,none⟩=some (.int .i64 T[k].parent)∧w.cell? ⟨g,k*3+1,none⟩=some (.string T[k].name)∧w.cell? ⟨g,k*3+2,none⟩=some (.slice pa T[k].props.length pc)∧w.cell? ⟨Z,0,none⟩=some (.slice (some ⟨g,0,none⟩) T.length cap)∧Z<w.heap.size∧g<w.heap.size∧
  (∃xs:List Value,w.ownsRow W.heap.size 46 3 (.slice (some ⟨g,0,none⟩) T.length cap) T.length xs)∧
  ∀xs:List Value,w.ownsRow W.heap.size 46 3 (.slice (some ⟨g,0,none⟩) T.length cap) T.length xs→∀(v8:Value) (w8:World),w8.ownsRow W.heap.size 46 3 v8 (T.length+1) (xs++[.int .i64 T[k].parent,.string T[k].name,.slice pa T[k].props.length pc])→(w.drew.alloc (.cells #[.int .i64 T[k].parent,.string T[k].name,.slice pa T[k].props.length pc] 46)).grownBy w8 (Value.slice (some ⟨g,0,none⟩) T.length cap).ownBlock→
   Z<w8.heap.size∧w8.frozen? ⟨Z,0,none⟩=false∧w8.cell? ⟨Z,0,none⟩=some (.slice (some ⟨g,0,none⟩) T.length cap)∧Qre B b Z Rb N M W (w8.setCell ⟨Z,0,none⟩ v8):=by
 have hr:=h.2.2.2.1.row;obtain⟨_,pa,pc,rfl,c0,c1,c2,hp,kr⟩:=hr.at k hk;obtain⟨_,_,q2,_,_⟩:=id hr;refine⟨pa,pc,c0,c1,c2,h.2.1.cell 0,h.2.1.lt,(q2.lt g rfl).2,⟨_,q2⟩,fun xs hx v8 w8 Hi hg=>?_⟩;exact h.drew.node (nd:=T[k]) rfl hN hM (hM _ (List.getElem_mem hk)) hp kr hx Hi hg
theorem Qur{Q:Exit→Act→World→Prop}(B b Z Rb N M g cap k:Nat)(T:List Qba)(W w:World)(hk:k<T.length)(hN:T.length+1≤N)(lh:N≤1000)(hM:∀n∈T,n.props.length+1≤M)(_:M≤1000){u1 u2 u3 u4 u6 u7 u10 u11 u12 u13 u14 u15 u16 u17 u18 u19 u20 u21 u22 u23 u24 u25 u26 u27 u28 u29 u30 u31 u32 u33 u34 u35 u36 u37 u38 u39 u40 u41 u42 u43 u44 u45 u46 u47 u48 u49 u50 u51 u52 u53 u54 u55 u56 u57 u58 u59 u60 u61 u62 u63 u64 u65 u66 u67 u68 u69 u70 u71 u72 u73 u74 u75 u76 u77 u78 u79 u80 u81 u82 u83 u84 u85 u86 u87 u88 u89 u90 u91 u92 u93 u94 u95 u96 u97 u98 u99 u100 u101 u102 u103 u104 u105 u106 u107 u108 u109 u110 u111 u112 u113 u114 u115 u116 u117 u118 u119 u120 u121 u122 u123 u124 u125 u126 u127 u128 u129 u130 u131 u132 u133 u134 u135 u136 u137 u138 u139 u140 u141 u142 u143 u144 u145 u146 u147 u148 u149 u150 u151 u152 u153 u154 u155 u156 u157 u158 u159 u160 u161 u162 u163 u164 u165 u166 u167 u168 u169 u170 u171 u172:Value}
 (hB:Hid (QXb B b Z Rb (.slice (some ⟨g,0,none⟩) T.length cap) T W w)) (hQ:Hid (∀(x105 x106 x107 x108 x109 x110 x111 x112 x113 x114:Value) (wx:World),Qre B b Z Rb N M W wx→Q .normal ⟨#[.pointer (some ⟨b,0,none⟩),u1,u2,u3,u4,.pointer (some ⟨Z,0,none⟩),u6,u7,.int .i64 k,.pointer (some ⟨g,k*3,none⟩),u10,u11,u12,u13,u14,u15,u16,u17,u18,u19,u20,u21,u22,u23,u24,u25,u26,u27,u28,u29,u30,u31,u32,u33,u34,u35,u36,u37,u38,u39,u40,u41,u42,u43,u44,u45,u46,u47,u48,u49,u50,u51,u52,u53,u54,u55,u56,u57,u58,u59,u60,u61,u62,u63,u64,u65,u66,u67,u68,u69,u70,u71,u72,u73,u74,u75,u76,u77,u78,u79,u80,u81,u82,u83,u84,u85,u86,u87,u88,u89,u90,u91,u92,u93,u94,u95,u96,u97,u98,u99,u100,u101,u102,u103,u104,x105,x106,x107,x108,x109,x110,x111,x112,x113,x114,u115,u116,u117,u118,u119,u120,u121,u122,u123,u124,u125,u126,u127,u128,u129,u130,u131,u132,u133,u134,u135,u136,u137,u138,u139,u140,u141,u142,u143,u144,u145,u146,u147,u148,u149,u150,u151,u152,u153,u154,u155,u156,u157,u158,u159,u160,u161,u162,u163,u164,u165,u166,u167,u168,u169,u170,u171,u172],[]⟩ wx)) :
 (Qxf 23).wp prog Q ⟨#[.pointer (some ⟨b,0,none⟩),u1,u2,u3,u4,.pointer (some ⟨Z,0,none⟩),u6,u7,.int .i64 k,.pointer (some ⟨g,k*3,none⟩),u10,u11,u12,u13,u14,u15,u16,u17,u18,u19,u20,u21,u22,u23,u24,u25,u26,u27,u28,u29,u30,u31,u32,u33,u34,u35,u36,u37,u38,u39,u40,u41,u42,u43,u44,u45,u46,u47,u48,u49,u50,u51,u52,u53,u54,u55,u56,u57,u58,u59,u60,u61,u62,u63,u64,u65,u66,u67,u68,u69,u70,u71,u72,u73,u74,u75,u76,u77,u78,u79,u80,u81,u82,u83,u84,u85,u86,u87,u88,u89,u90,u91,u92,u93,u94,u95,u96,u97,u98,u99,u100,u101,u102,u103,u104,u105,u106,u107,u108,u109,u110,u111,u112,u113,u114,u115,u116,u117,u118,u119,u120,u121,u122,u123,u124,u125,u126,u127,u128,u129,u130,u131,u132,u133,u134,u135,u136,u137,u138,u139,u140,u141,u142,u143,u144,u145,u146,u147,u148,u149,u150,u151,u152,u153,u154,u155,u156,u157,u158,u159,u160,u161,u162,u163,u164,u165,u166,u167,u168,u169,u170,u171,u172],[]⟩ w:=by
 refine Qli ?_;simp only[Qxf,QHf,Tryz.f25,Option.getD_some,reduceIte,Nat.reduceEqDiff];have gz:=hM T[k] (List.getElem_mem hk);obtain⟨pa,pc,n0,n1,n2,z0,zl,GG,Hn,gD⟩:=Q6o (M:=M) hB.o hk hN (fun n hn=>by have:=hM n hn;omega);obtain⟨i0,hi,Hz,Ho,H4⟩:=info_parts QRg;have Mg:(k:Int)<(T.length:Int):=by omega
 have hki0:(0:Int)≤(k:Int):=by omega
 obtain⟨xs,Hi⟩:=Hn;have GS:=hid (World.ownsRow.alloc (show w.drew.ownsRow W.heap.size 46 3 (.slice (some ⟨g,0,none⟩) T.length cap) T.length xs from Hi) (.cells #[.int .i64 T[k].parent,.string T[k].name,.slice pa T[k].props.length pc] 46));have sE:=hid Hi;have JY:=hid gD;have Aa:=hB.o.2.2.2.2.1.size;clear Hi gD
 go_region_law (refine step_append_lies _ (by rfl) _ _ _ (by rfl) W.heap.size 46 i0 _ 3 48 underlying25 hi Hz Ho H4 rfl (by omega) _ T.length xs (by rfl) GS.o ⟨w.heap.size,0,none⟩ 1 1 [.int .i64 T[k].parent,.string T[k].name,.slice pa T[k].props.length pc] (by rfl) (by rfl) (World.news_of_block (cs:=#[.int .i64 T[k].parent,.string T[k].name,.slice pa T[k].props.length pc]) (t:=46) (fr:=(0,0)) (heap_alloc_new w.drew _)) (by simp[Value.oneCell']) (by omega) (by unfold maxLen;omega) (by omega) (by simp;omega) (w.heap.size+1) (by simp) ?_;intro gg cap2 w8 gO Hd gj jw;obtain⟨m0,m1,m2,hE⟩:=JY.o xs sE.o _ w8 gO Hd)
 all_goals
  go_wp2_with fail;exact hQ.o _ _ _ _ _ _ _ _ _ _ _ hE
theorem Qvr{Q:Exit→Act→World→Prop}(B b Z Rb N M g cap k:Nat)(T:List Qba)(W w:World)(hk:k<T.length)(hN:T.length+1≤N)(_:N≤1000)(hM:∀n∈T,n.props.length+1≤M)(kE:M≤1000)(ab:Option Addr)(cb:Nat)(acc:List UInt8)(aw:acc.length≤1000)(jn:w.ownsRow W.heap.size 5 1 (.slice ab acc.length cb) acc.length (Lib.byteCells acc)){u1 u2 u3 u4 u6 u7 u11 u12 u13 u14 u15 u16 u17 u18 u19 u20 u21 u22 u23 u24 u25 u26 u27 u28 u29 u30 u31 u32 u33 u34 u35 u36 u37 u38 u39 u40 u41 u42 u43 u44 u45 u46 u47 u48 u49 u50 u51 u52 u53 u54 u55 u56 u57 u58 u59 u60 u61 u62 u63 u64 u65 u66 u67 u68 u69 u70 u71 u72 u73 u74 u75 u76 u77 u78 u79 u80 u81 u82 u83 u84 u85 u86 u87 u88 u89 u90 u91 u92 u93 u94 u95 u96 u97 u98 u99 u100 u101 u102 u103 u104 u105 u106 u107 u108 u109 u110 u111 u112 u113 u114 u115 u116 u117 u118 u119 u120 u121 u122 u123 u124 u125 u126 u127 u128 u129 u130 u131 u132 u133 u134 u135 u136 u137 u138 u139 u140 u141 u142 u143 u144 u145 u146 u147 u148 u149 u150 u151 u152 u153 u154 u155 u156 u157 u158 u159 u160 u161 u162 u163 u164 u165 u166 u167 u168 u169 u170 u171 u172:Value}
 (hB:Hid (QXb B b Z Rb (.slice (some ⟨g,0,none⟩) T.length cap) T W w)) (hQ:Hid (∀(x130 x131 x132 x133 x134 x135 x136 x137 x138 x139 x140 x141:Value) (wx:World),Qre B b Z Rb N M W wx→Q .normal ⟨#[.pointer (some ⟨b,0,none⟩),u1,u2,u3,u4,.pointer (some ⟨Z,0,none⟩),u6,u7,.int .i64 k,.pointer (some ⟨g,k*3,none⟩),.slice ab acc.length cb,u11,u12,u13,u14,u15,u16,u17,u18,u19,u20,u21,u22,u23,u24,u25,u26,u27,u28,u29,u30,u31,u32,u33,u34,u35,u36,u37,u38,u39,u40,u41,u42,u43,u44,u45,u46,u47,u48,u49,u50,u51,u52,u53,u54,u55,u56,u57,u58,u59,u60,u61,u62,u63,u64,u65,u66,u67,u68,u69,u70,u71,u72,u73,u74,u75,u76,u77,u78,u79,u80,u81,u82,u83,u84,u85,u86,u87,u88,u89,u90,u91,u92,u93,u94,u95,u96,u97,u98,u99,u100,u101,u102,u103,u104,u105,u106,u107,u108,u109,u110,u111,u112,u113,u114,u115,u116,u117,u118,u119,u120,u121,u122,u123,u124,u125,u126,u127,u128,u129,x130,x131,x132,x133,x134,x135,x136,x137,x138,x139,x140,x141,u142,u143,u144,u145,u146,u147,u148,u149,u150,u151,u152,u153,u154,u155,u156,u157,u158,u159,u160,u161,u162,u163,u164,u165,u166,u167,u168,u169,u170,u171,u172],[]⟩ wx)) :
 (Qxf 28).wp prog Q ⟨#[.pointer (some ⟨b,0,none⟩),u1,u2,u3,u4,.pointer (some ⟨Z,0,none⟩),u6,u7,.int .i64 k,.pointer (some ⟨g,k*3,none⟩),.slice ab acc.length cb,u11,u12,u13,u14,u15,u16,u17,u18,u19,u20,u21,u22,u23,u24,u25,u26,u27,u28,u29,u30,u31,u32,u33,u34,u35,u36,u37,u38,u39,u40,u41,u42,u43,u44,u45,u46,u47,u48,u49,u50,u51,u52,u53,u54,u55,u56,u57,u58,u59,u60,u61,u62,u63,u64,u65,u66,u67,u68,u69,u70,u71,u72,u73,u74,u75,u76,u77,u78,u79,u80,u81,u82,u83,u84,u85,u86,u87,u88,u89,u90,u91,u92,u93,u94,u95,u96,u97,u98,u99,u100,u101,u102,u103,u104,u105,u106,u107,u108,u109,u110,u111,u112,u113,u114,u115,u116,u117,u118,u119,u120,u121,u122,u123,u124,u125,u126,u127,u128,u129,u130,u131,u132,u133,u134,u135,u136,u137,u138,u139,u140,u141,u142,u143,u144,u145,u146,u147,u148,u149,u150,u151,u152,u153,u154,u155,u156,u157,u158,u159,u160,u161,u162,u163,u164,u165,u166,u167,u168,u169,u170,u171,u172],[]⟩ w:=by
 refine Qli ?_;simp only[Qxf,QHf,Tryz.f25,Option.getD_some,reduceIte,Nat.reduceEqDiff];have gz:=hM T[k] (List.getElem_mem hk);obtain⟨pa,pc,c0,c1,GG,Gm,gD⟩:=hB.o.prop hk (by omega:T.length≤N) hM;obtain⟨i0,hi,Hz,Ho,H4⟩:=info_parts QGc;have Mf:=Q3c (show w.drew.ownsRow W.heap.size 5 1 (.slice ab acc.length cb) acc.length (Lib.byteCells acc)from jn);have Aa:=hB.o.2.2.2.2.1.size;have yE:(⟨acc.toArray⟩:ByteArray).size≤9223372036854775807:=by show acc.toArray.size≤_;simp;omega
 have kH:=Qch hB.o.drew hk (by omega:T.length≤N) hM c0 ⟨#[122,122]⟩ ⟨acc.toArray⟩ ⟨by show(⟨#[122,122]⟩:ByteArray).size≤_;decide,yE⟩;clear gD Gm jn yE;generalize(⟨acc.toArray⟩:ByteArray)=val at *
 go_region_law (refine step_append_lies _ (by rfl) _ _ _ (by rfl) W.heap.size 49 i0 _ 2 32 underlying44 hi Hz Ho H4 rfl (by omega) _ T[k].props.length (Qfa T[k].props) (by rfl) kH.o.1 ⟨w.heap.size,0,none⟩ 1 1 [.string ⟨#[122,122]⟩,.string val] (by rfl) (by rfl) (World.news_of_block (cs:=#[.string ⟨#[122,122]⟩,.string val]) (t:=49) (fr:=(0,0)) (heap_alloc_new w.drew _)) (by simp[Value.oneCell']) (by omega) (by unfold maxLen;omega) (by omega) (by simp;omega) (w.heap.size+1) (by simp) ?_;intro gg cap2 w8 gO Hd gj jw;obtain⟨m0,m1,m2,hE⟩:=kH.o.2 _ w8 gO Hd)
 all_goals
  go_wp2_with fail;exact hQ.o _ _ _ _ _ _ _ _ _ _ _ _ _ hE
theorem Qqo{w:World}{base gp n cp:Nat}{ps r:List Qqa}{p0 p1:Qqa}(hr:Qna w base (.slice (some ⟨gp,0,none⟩) n cp) ps)(Gt:ps=p0::p1::r) :
 w.cell? ⟨gp,0,none⟩=some (.string p0.name)∧w.cell? ⟨gp,1,none⟩=some (.string p0.value)∧w.cell? ⟨gp,2,none⟩=some (.string p1.name)∧w.cell? ⟨gp,3,none⟩=some (.string p1.value)∧(∀o,w.frozen? ⟨gp,o,none⟩=false)∧gp<w.heap.size∧
  Qna ((((w.drew.setCell ⟨gp,0,none⟩ (.string p1.name)).setCell ⟨gp,1,none⟩ (.string p1.value)).setCell ⟨gp,2,none⟩ (.string p0.name)).setCell ⟨gp,3,none⟩ (.string p0.value)) base (.slice (some ⟨gp,0,none⟩) n cp) (p1::p0::r)∧
  Qaa (fun b=>(Value.slice (some ⟨gp,0,none⟩) n cp).ownBlock=some b) w ((((w.drew.setCell ⟨gp,0,none⟩ (.string p1.name)).setCell ⟨gp,1,none⟩ (.string p1.value)).setCell ⟨gp,2,none⟩ (.string p0.name)).setCell ⟨gp,3,none⟩ (.string p0.value)):=by
 subst Gt;obtain⟨_,cur,hH⟩:=Qic hr.1 rfl;have hn:n=(p0::p1::r).length:=by
  rcases hr.1.2 with⟨e,_⟩|⟨_,_,_,e,_⟩
  ·cases e
  cases e;rfl
 subst hn;have k0:=hr.1.cellAt 0 (by show 0<(r.length+1+1)*2;omega);have k1:=hr.1.cellAt 1 (by show 1<(r.length+1+1)*2;omega);have k2:=hr.1.cellAt 2 (by show 2<(r.length+1+1)*2;omega);have k3:=hr.1.cellAt 3 (by show 3<(r.length+1+1)*2;omega);have hd:w.drew.ownsRow base 49 2 (.slice (some ⟨gp,0,none⟩) (p0::p1::r).length cp) (p0::p1::r).length (Qfa (p0::p1::r)):=hr.1;have t1:=(hd.stored 0 (.string p1.name)).1;have t2:=(t1.stored 1 (.string p1.value)).1;have t3:=(t2.stored 2 (.string p0.name)).1;have t4:=(t3.stored 3 (.string p0.value)).1;refine⟨k0,k1,k2,k3,fun o=>hH.free o,hH.lt,⟨t4,fun q hq=>hr.2 q ?_⟩,?_⟩
 ·simp only[List.mem_cons]at hq ⊢;rcases hq with h|h|h
  ·exact .inr (.inl h)
  ·exact .inl h
  exact .inr (.inr h)
 exact(((((Qaa.refl (fun b=>(Value.slice (some ⟨gp,0,none⟩) (p0::p1::r).length cp).ownBlock=some b) w).drew).setCell (p:=⟨gp,0,none⟩) (.inr rfl) _).setCell (p:=⟨gp,1,none⟩) (.inr rfl) _).setCell (p:=⟨gp,2,none⟩) (.inr rfl) _).setCell (p:=⟨gp,3,none⟩) (.inr rfl) _
theorem Qwr{Q:Exit→Act→World→Prop}(B b Z Rb N M g cap k:Nat)(T:List Qba)(W w:World)(hk:k<T.length)(hN:T.length+1≤N)(_:N≤1000)(hM:∀n∈T,n.props.length+1≤M)(_:M≤1000)(hl:1<T[k].props.length){u1 u2 u3 u4 u6 u7 u10 u11 u12 u13 u14 u15 u16 u17 u18 u19 u20 u21 u22 u23 u24 u25 u26 u27 u28 u29 u30 u31 u32 u33 u34 u35 u36 u37 u38 u39 u40 u41 u42 u43 u44 u45 u46 u47 u48 u49 u50 u51 u52 u53 u54 u55 u56 u57 u58 u59 u60 u61 u62 u63 u64 u65 u66 u67 u68 u69 u70 u71 u72 u73 u74 u75 u76 u77 u78 u79 u80 u81 u82 u83 u84 u85 u86 u87 u88 u89 u90 u91 u92 u93 u94 u95 u96 u97 u98 u99 u100 u101 u102 u103 u104 u105 u106 u107 u108 u109 u110 u111 u112 u113 u114 u115 u116 u117 u118 u119 u120 u121 u122 u123 u124 u125 u126 u127 u128 u129 u130 u131 u132 u133 u134 u135 u136 u137 u138 u139 u140 u141 u142 u143 u144 u145 u146 u147 u148 u149 u150 u151 u152 u153 u154 u155 u156 u157 u158 u159 u160 u161 u162 u163 u164 u165 u166 u167 u168 u169 u170 u171 u172:Value}
 (hB:Hid (QXb B b Z Rb (.slice (some ⟨g,0,none⟩) T.length cap) T W w)) (hQ:Hid (∀(x150 x151 x152 x153 x154 x155 x156 x157 x158 x159 x160 x161 x162 x163 x164 x165 x166 x167 x168 x169 x170 x171:Value) (wx:World),Qre B b Z Rb N M W wx→Q .normal ⟨#[.pointer (some ⟨b,0,none⟩),u1,u2,u3,u4,.pointer (some ⟨Z,0,none⟩),u6,u7,.int .i64 k,.pointer (some ⟨g,k*3,none⟩),u10,u11,u12,u13,u14,u15,u16,u17,u18,u19,u20,u21,u22,u23,u24,u25,u26,u27,u28,u29,u30,u31,u32,u33,u34,u35,u36,u37,u38,u39,u40,u41,u42,u43,u44,u45,u46,u47,u48,u49,u50,u51,u52,u53,u54,u55,u56,u57,u58,u59,u60,u61,u62,u63,u64,u65,u66,u67,u68,u69,u70,u71,u72,u73,u74,u75,u76,u77,u78,u79,u80,u81,u82,u83,u84,u85,u86,u87,u88,u89,u90,u91,u92,u93,u94,u95,u96,u97,u98,u99,u100,u101,u102,u103,u104,u105,u106,u107,u108,u109,u110,u111,u112,u113,u114,u115,u116,u117,u118,u119,u120,u121,u122,u123,u124,u125,u126,u127,u128,u129,u130,u131,u132,u133,u134,u135,u136,u137,u138,u139,u140,u141,u142,u143,u144,u145,u146,u147,u148,u149,x150,x151,x152,x153,x154,x155,x156,x157,x158,x159,x160,x161,x162,x163,x164,x165,x166,x167,x168,x169,x170,x171,u172],[]⟩ wx)) :
 (Qxf 31).wp prog Q ⟨#[.pointer (some ⟨b,0,none⟩),u1,u2,u3,u4,.pointer (some ⟨Z,0,none⟩),u6,u7,.int .i64 k,.pointer (some ⟨g,k*3,none⟩),u10,u11,u12,u13,u14,u15,u16,u17,u18,u19,u20,u21,u22,u23,u24,u25,u26,u27,u28,u29,u30,u31,u32,u33,u34,u35,u36,u37,u38,u39,u40,u41,u42,u43,u44,u45,u46,u47,u48,u49,u50,u51,u52,u53,u54,u55,u56,u57,u58,u59,u60,u61,u62,u63,u64,u65,u66,u67,u68,u69,u70,u71,u72,u73,u74,u75,u76,u77,u78,u79,u80,u81,u82,u83,u84,u85,u86,u87,u88,u89,u90,u91,u92,u93,u94,u95,u96,u97,u98,u99,u100,u101,u102,u103,u104,u105,u106,u107,u108,u109,u110,u111,u112,u113,u114,u115,u116,u117,u118,u119,u120,u121,u122,u123,u124,u125,u126,u127,u128,u129,u130,u131,u132,u133,u134,u135,u136,u137,u138,u139,u140,u141,u142,u143,u144,u145,u146,u147,u148,u149,u150,u151,u152,u153,u154,u155,u156,u157,u158,u159,u160,u161,u162,u163,u164,u165,u166,u167,u168,u169,u170,u171,u172],[]⟩ w:=by
 refine Qli ?_;simp only[Qxf,QHf,Tryz.f25,Option.getD_some,reduceIte,Nat.reduceEqDiff];have gz:=hM T[k] (List.getElem_mem hk);obtain⟨pa,pc,c0,GG,Gm,gD⟩:=hB.o.row hk (by omega:T.length≤N) (fun n hn=>by have:=hM n hn;omega:∀n∈T,n.props.length≤M);obtain⟨gp,cp,GC,hgp1,hgp2⟩:=Gm.1.form (by omega);obtain⟨rfl,rfl⟩:pa=some ⟨gp,0,none⟩∧pc=cp:=by cases GC;exact⟨rfl,rfl⟩
 obtain⟨p0,p1,r,Gt⟩:∃p0 p1 r,T[k].props=p0::p1::r:=by
  cases h:T[k].props with
  | nil=>rw[h]at hl;simp at hl
  | cons p0 l=>cases l with
   | nil=>rw[h]at hl;simp at hl
   | cons p1 r=>exact⟨p0,p1,r,rfl⟩
 have hli:(1:Int)<(T[k].props.length:Int):=by omega
 have hli0:(0:Int)<(T[k].props.length:Int):=by omega
 have hli1:0<T[k].props.length:=by omega
 obtain⟨d0,d1,d2,d3,dfr,hgpl,yw⟩:=Qqo Gm Gt;have HE:=hid (fun(w':World) h1 h2=>gD w' (p1::p0::r) h1 (by rw[Gt]at gz;simp at gz ⊢;omega) h2);have zw:=hid yw;have f0:=dfr 0;have f1:=dfr 1;have f2:=dfr 2;have f3:=dfr 3;clear gD Gm Gt yw dfr GC;generalize T[k].props.length=n0 at *
 go_still_tail 20,(by kernel_rfl)
 go_wp2_with fail;obtain⟨s1,s2⟩:=zw.o;exact hQ.o _ _ _ _ _ _ _ _ _ _ _ _ _ _ _ _ _ _ _ _ _ _ _ (HE.o _ s1 s2)
theorem QXb.cells{B b Z Rb g cap k:Nat}{T:List Qba}{W w:World}(h:QXb B b Z Rb (.slice (some ⟨g,0,none⟩) T.length cap) T W w)(hk:k<T.length) :
 w.cell? ⟨g,k*3,none⟩=some (.int .i64 T[k].parent)∧w.cell? ⟨g,k*3+1,none⟩=some (.string T[k].name)∧w.frozen? ⟨g,k*3,none⟩=false∧w.frozen? ⟨g,k*3+1,none⟩=false∧g<w.heap.size:=by
 have hr:=h.2.2.2.1.row;obtain⟨_,pa,pc,rfl,c0,c1,c2,hp,kr⟩:=hr.at k hk;obtain⟨qvs,q1,q2,_,_⟩:=id hr;exact⟨c0,c1,q2.frozenAt _,q2.frozenAt _,(q2.lt g rfl).2⟩
theorem QXb.props{B b Z Rb g cap k:Nat}{T:List Qba}{W w:World}(h:QXb B b Z Rb (.slice (some ⟨g,0,none⟩) T.length cap) T W w)(hk:k<T.length) :
 ∃pa pc,w.cell? ⟨g,k*3+2,none⟩=some (.slice pa T[k].props.length pc):=by
 obtain⟨_,pa,pc,rfl,c0,c1,c2,hp,kr⟩:=h.2.2.2.1.row.at k hk;exact⟨pa,pc,c2⟩
def QSi:List ByteArray:=[⟨#[]⟩,⟨#[97]⟩,⟨#[122]⟩,⟨#[49]⟩,⟨#[97,32,98]⟩,⟨#[35,97]⟩,⟨#[97,50,51,52,53,54,55,56,57,48,49,50,51,52,53,54,55,56,57,48,49,50,51,52,53,54,55,56,57,48,49]⟩,⟨#[97,50,51,52,53,54,55,56,57,48,49,50,51,52,53,54,55,56,57,48,49,50,51,52,53,54,55,56,57,48,49,50]⟩]
theorem Q3n{s:ByteArray}(h:s∈QSi):s.size≤9223372036854775807:=by
 have:∀x∈QSi,x.size≤9223372036854775807:=by decide
 exact this s h
theorem QQj{w:World}{g:Nat}{l:List Int}(h:Holds w g (l.map (Value.int .i64)).toArray 3)(i:Nat)(hi:i<l.length):w.cell? ⟨g,0+i,none⟩=some (.int .i64 l[i]):=by
 rw[Nat.zero_add,h.cell i];simp[hi]
theorem QKi(n:Nat)(hn:n≤1000)(wx:World):(Instr.makeSlice 88 (.int .i64 n) (.int .i64 n)).run prog wx=.ok (.slice (some ⟨wx.heap.size,0,none⟩) n n) (wx.alloc (.cells (Array.replicate n (.int .u8 0)) 5)):=by
 obtain⟨i0,hi,Hz,Ho,H4⟩:=info_parts QFj;have:=run_make (P:=prog) wx 88 5 i0 _ underlying88 hi Hz .i64 .i64 n n (by omega) (by omega) (by rw[H4];omega) (by omega);rw[this,Ho,show(Value.int .u8 0).cells=#[.int .u8 0]from rfl];simp[QWc]
theorem QLi(w:World)(n base:Nat)(hb:base≤w.heap.size)(hn:n≤257):∃acc:List UInt8,acc.length=n∧(w.alloc (.cells (Array.replicate n (.int .u8 0)) 5)).ownsRow base 5 1 (.slice (some ⟨w.heap.size,0,none⟩) acc.length acc.length) acc.length (Lib.byteCells acc):=by
 refine⟨List.replicate n 0,by simp,?_⟩;have:=QWd (w:=w) (base:=base) (e:=5) (size:=1) (n:=n) (cs:=Array.replicate n (.int .u8 0)) rfl hb (by simp) (by omega);rw[List.length_replicate];have e:Lib.byteCells (List.replicate n 0)=(Array.replicate n (Value.int .u8 0)).toList:=by simp[Lib.byteCells]
 rw[e];exact this
def Qvu(B b Z Rb N M:Nat)(W:World)(_:Value)(w:World):Prop:=Qre B b Z Rb N M W w
def Quu(T:List Qba)(w:World)(f:Nat)(x:Value)(wr:World):Prop:=
 ∃(k:Nat) (v:Value),x=.int .i64 k∧k≤T.length∧T.length≤k+f∧Holds wr (w.heap.size+1+1) #[v] 27∧Qoc wr w.heap.size v (T.take k)∧Holds wr (w.heap.size+1) #[.slice none 0 0] 27∧Below w.heap.size w wr
def Qdr(B b N M:Nat)(w:World)(e:Ending)(w':World):Prop:=
 ∃v T',e=.returned (.agg #[v])∧Qda w' w.heap.size v T'∧T'.length≤N∧(∀n∈T',n.props.length≤M)∧QFb B w' b∧Qaa (fun i=>i=b) w w'
theorem QCp(B b N M:Nat)(R:Nat→Prop)(v:Value)(T:List Qba)(w:World)(hTp:QFb B w b)(hT:Qoa R w v T)(hl:T.length+1≤N)(lh:N≤900)(hM:∀n∈T,n.props.length+1≤M)(kE:M≤900) :
 Calls prog 25 #[.pointer (some ⟨b,0,none⟩),.agg #[v]] w (Qdr B b N M w):=by
 obtain⟨a,cap,rfl,gy,gh⟩:=hT.shape;have HT:=hid hT;clear hT;have j4:=hid (fun n hn=>by have:=hM n hn;omega:∀n∈T,n.props.length≤1000);have HM:=hid hM;have nG:=hid hTp;have aC:=hTp.lt;clear hM hTp;go_enter func25,ntmps25;go_wp2_with fail;go_loopg [14] (T.length) (fun f x wr=>Quu T w f x wr)
 case atStart=>exact⟨0,_,rfl,by omega,by omega,Holds.newAt (w:=(w.alloc _).alloc _) (by simp) _ _,Qoc.nil _ _,(Holds.newAt (w:=w.alloc _) (by simp) _ _).alloc _,((Bq).alloc (by simp) _).alloc (by simp;omega) _⟩
 case round=>
  obtain⟨k,v,rfl,hk,hf,hO,hR,hZ,hb⟩:=hrel;have Hy:=hb.size;by_cases Hh:k<T.length
  ·obtain⟨g,o,pa,pc,rfl,hg,c0,c1,c2,hp,p1,p2,b0,b1,b2⟩:=(HT.o.new hb).at k Hh;have gz:=j4.o T[k] (List.getElem_mem Hh);have mK:Qcc T[k]:=⟨b0,b1,b2⟩;have Kh:=Holds.new wr #[.int .i64 T[k].parent,.string T[k].name,.slice pa T[k].props.length pc] 46;have He:Below wr.heap.size wr (wr.alloc (.cells #[.int .i64 T[k].parent,.string T[k].name,.slice pa T[k].props.length pc] 46)):=Bq;have M0:=hid (hp.new He);clear hp;have mP:=hid (Qll Hh);have su:=hid mK;clear mK;generalize T[k]=nd at *
   go_upto_region 5 with fail;go_cut [7] (fun y wx=>QQo nd wr.heap.size wr y wx)
   case first=>
    have hE:=Holds.newAt (w:=wr.alloc (.cells #[.int .i64 nd.parent,.string nd.name,.slice pa nd.props.length pc] 46)) (B:=wr.heap.size+1) (by simp) #[] 49;have n2:=Kh.cell 2;have f2:=Kh.free 2;have l2:=Kh.lt;obtain⟨i0,hi,Hz,Ho,H4⟩:=info_parts QGc;by_cases hpz:nd.props.length=0
    ·have mD:nd.props=[]:=List.length_eq_zero_iff.1 hpz;rw[hpz]at *
     have bC:=hid mD;clear mD hpz;go_wp2_with(at_builtin;refine Qrb rfl _ _ 44 rfl wr.heap.size 49 i0 2 underlying44 hi (.slice (some ⟨wr.heap.size+1,0,none⟩) 0 0) 0 [] rfl (by exact Qub (by simp) (by omega)) pa pc rfl ?_);go_meet;refine⟨_,rfl,(Holds.new wr _ _).alloc _,?_,(Bq).alloc (by simp) _⟩;rw[bC.o];exact⟨Qub (by simp) (by omega),fun _ h=>by cases h⟩
    obtain⟨pg,po,lI,JI,_,Kn,KQ,MN⟩:=M0.o.row (by omega);subst lI;have cy:=hid KQ;have ft:=hid Kn;clear KQ Kn MN;go_wp2_with(at_builtin;refine wpList_append_own _ rfl _ _ 44 rfl wr.heap.size 49 i0 (.agg #[.string ⟨#[]⟩,.string ⟨#[]⟩]) 2 32 underlying44 hi Hz Ho H4 rfl (by decide) (.slice (some ⟨wr.heap.size+1,0,none⟩) 0 0) 0 [] rfl (by exact Qub (by simp) (by omega)) ⟨pg,po,none⟩ nd.props.length pc (Qfa nd.props) rfl (Q4a _) ?c1 ?c2 ?c3 ?c4 ?c5 ?_)
    case c1=>exact Q1d cy.o JI (Bq)
    case c2=>exact QDb _
    case c3=>unfold maxLen;omega
    case c4=>omega
    case c5=>simp;omega
    intro v' w5 Hj Hd _;have ah:=(Kh.alloc (.cells #[] 49)).grown Hd (fun e=>by have:wr.heap.size+1=wr.heap.size:=Option.some.inj e;omega);have H5:=(He.alloc (by simp) (.cells #[] 49)).grown Hd (by simp;omega) (fun q hq=>by have:wr.heap.size+1=q:=Option.some.inj hq;omega);clear Hd n2 f2 l2;obtain⟨va,vc,rfl⟩:=Qea Hj;have n2:=ah.cell 2;have f2:=ah.free 2;have l2:=ah.lt;go_wp2_with fail;go_meet;exact⟨_,rfl,ah.set 2 _,⟨Qvc Hj ah (by decide) 2 _,ft.o⟩,H5.setCell (p:=⟨wr.heap.size,2,none⟩) (Nat.le_refl _) _⟩
   case rest=>
    obtain⟨pv,rfl,hN,hP,Hg⟩:=hcut;clear Kh He;have GX:=hO.fr Hg;have gf:=hZ.fr Hg;have Jf:=hR.low.new Hg;have Hu:=hb.trans (Hg.mono Hy);have MP:=Hu.size;have Jg:(T.take k).length=k:=by simp;omega
    generalize T.take k=T0 at *
    obtain⟨pvs,g1,g2,g3,g4,g5⟩:=Jf;have G5:=hid g5;have G3:=hid g3;have G4:=hid g4;have G1:=hid g1;have e1:T0.length+1≤maxLen:=by unfold maxLen;omega
    have e2:(T0.length+1)*48≤140737488355328:=by omega
    clear g3 g4 g5 g1 hR hO hZ Jg;obtain⟨pa2,pc2,Kf⟩:=Qea hP.1;obtain⟨xa,xc,rfl⟩:=Qea g2;have x0:=GX.cell 0;have xl:=GX.lt;have m0:=hN.cell 0;have m1:=hN.cell 1;have m2:=hN.cell 2;have ml:=hN.lt;obtain⟨i0,hi,Hz,Ho,H4⟩:=info_parts QRg;have sF:=hid Kf;clear Kf;go_wp2_with(at_builtin;refine wpList_append_own _ rfl _ _ 25 rfl w.heap.size 46 i0 (.agg #[.int .i64 0,.string ⟨#[]⟩,.slice none 0 0]) 3 48 underlying25 hi Hz Ho H4 rfl (by decide) _ T0.length (Qpa T0 pvs) rfl (by exact World.ownsRow.alloc g2 _) ⟨wc.heap.size,0,none⟩ 1 1 [.int .i64 nd.parent,.string nd.name,pv] rfl rfl ?d1 ?d2 ?d3 ?d4 ?d5 ?_)
    case d1=>exact Q8a _ _ _ _ rfl _ rfl
    case d2=>
     intro u hu;simp at hu;rcases hu with rfl|rfl|rfl
     ·rfl
     ·rfl
     rw[sF.o];rfl
    case d3=>exact e1
    case d4=>exact e2
    case d5=>simp;omega
    intro v' w6 Hj Hd _;have Kt:=(GX.alloc (.cells #[.int .i64 nd.parent,.string nd.name,pv] 46)).grown Hd (Qla g2 GX (by decide));have JE:=(gf.alloc (.cells #[.int .i64 nd.parent,.string nd.name,pv] 46)).grown Hd (Qla g2 gf (by decide));have gn:=(Hu.alloc MP (.cells #[.int .i64 nd.parent,.string nd.name,pv] 46)).grown Hd (by simp;omega) (fun g hg=>(g2.lt g hg).1);have ma:Below wc.heap.size wc (wc.alloc (.cells #[.int .i64 nd.parent,.string nd.name,pv] 46)):=Bq;have kT:Qoc w6 w.heap.size v' (T0++[nd]):=QIb.more G1.o (World.ownsRow.alloc g2 _) (fun q hq KI=>(G3.o q hq KI).new ma) G4.o G5.o Hy (hP.new ma) su.o Hj Hd;obtain⟨va,vc,rfl⟩:=Qea Hj;clear Hd Hj x0 xl m0 m1 m2 ml;have x0:=Kt.cell 0;have xf:=Kt.free 0;have xl:=Kt.lt;go_wp2_with fail;go_roundg (gk-1)
    case measure=>omega
    case rel=>exact⟨k+1,_,by go_num,by omega,by omega,Kt.set 0 _,by rw[mP.o];exact kT.set Kt (by decide) (by decide) 0 _,JE.other _ _ (by show w.heap.size+1≠w.heap.size+1+1;omega),gn.setCell (p:=⟨w.heap.size+1+1,0,none⟩) (by simp;omega) _⟩
  have jv:T.take k=T:=List.take_of_length_le (by omega);rw[jv]at hR;obtain⟨va,vc,hv⟩:=hR.row.slice;subst hv;have hS:QXb B b (w.heap.size+1+1) (w.heap.size+1) (.slice va T.length vc) T w wr:=⟨nG.o.keeps (Qaa.of_fresh hb (fun _=>False)) (fun _ e=>e.elim),hO,hZ,hR,Qaa.of_fresh hb _,aC,by omega,by omega⟩;have HS:=hid hS;have x0:=hO.cell 0;have xl:=hO.lt;have z0:=hZ.cell 0;have zf:=hZ.free 0;have zl:=hZ.lt;clear jv hS hR hf hk;by_cases Ki:T.length=0
  ·have GU:T=[]:=List.length_eq_zero_iff.1 Ki;have hz:((T.length:Int)==0)=true:=by rw[Ki];rfl
   have q0:=(hZ.set 0 (.slice va T.length vc)).cell 0;have kZ:=HS.o.2.2.2.1.row.set hZ (by decide) (by decide) 0 (.slice va T.length vc);have g8:QFb B (wr.setCell ⟨w.heap.size+1,0,none⟩ (.slice va T.length vc)) b:=HS.o.1.keeps ((Qaa.refl (fun i=>i=w.heap.size+1) wr).setCell (p:=⟨w.heap.size+1,0,none⟩) (.inr rfl) _) (fun i e=>by have:=nG.o.1;subst e;omega);have H3:Qaa (fun i=>i=b) w (wr.setCell ⟨w.heap.size+1,0,none⟩ (.slice va T.length vc)):=HS.o.2.2.2.2.1.setCell (p:=⟨w.heap.size+1,0,none⟩) (.inl (by simp)) _;have HF:=hid (And.intro q0 (And.intro kZ (And.intro g8 H3)));have Jg:=hid (show T.length≤N∧∀n∈T,n.props.length≤M from⟨by omega,fun n hn=>by have:=HM.o n hn;omega⟩);clear Ki q0 kZ g8 H3 hO hZ GU;go_wp2_with fail;obtain⟨q0,kZ,g8,H3⟩:=HF.o;exact bodyPost_ret (v:=.agg #[.slice va T.length vc]) (by simp[results,Tryz.results25,go_sem,q0]) rfl ⟨_,T,rfl,kZ,Jg.o.1,Jg.o.2,g8,H3⟩
  have hz:((T.length:Int)==0)=false:=by rw[beq_eq_false_iff_ne];omega
  go_wp2_with fail;refine(QUg B b T.length _ (by exact HS.o.1) (by omega) (by omega)).mono ?_;rintro e w1 ⟨k,rfl,k0,k1,GU,Gh⟩;have cA:=hid (HS.o.call GU Gh);obtain⟨k,rfl⟩:=Int.eq_ofNat_of_zero_le k0;have hk:k<T.length:=by omega
  obtain⟨g,vc',bP,uA,Jk⟩:∃g c,Value.slice va T.length vc=.slice (some ⟨g,0,none⟩) T.length c∧w.heap.size≤g∧g<wr.heap.size:=by
   obtain⟨_,_,_,⟨_,pvs,q1,q2,_⟩,_⟩:=HS.o;exact q2.form (by omega)
  cases bP;clear HS x0 xl z0 zf zl hO hZ;have x0:=cA.o.2.1.cell 0;have xl:=cA.o.2.1.lt;go_wp2_with fail;refine(QUg B b 9 _ (by exact cA.o.1) (by omega) (by omega)).mono ?_;rintro e w2 ⟨c,rfl,c0,c1,g8,H3⟩;have Gp:=hid (cA.o.call g8 H3);clear cA x0 xl;go_upto_block 2 with fail;go_cut [10] (fun y wx=>Qvu B b (w.heap.size+1+1) (w.heap.size+1) N M w y wx)
  case first=>
   have Hw:c=0∨c=1∨c=2∨c=3∨c=4∨c=5∨c=6∨c=7∨c=8:=by omega
   clear c0 c1;rcases Hw with rfl|rfl|rfl|rfl|rfl|rfl|rfl|rfl|rfl
   ·obtain⟨n0,n1,f0,f1,GG⟩:=Gp.o.cells hk;go_wp2_with fail;have hH:=Holds.new w2 (([-1,0,(k:Int),(k:Int)-1,200]:List Int).map (Value.int .i64)).toArray 3;refine(QSh B b w2.heap.size 0 5 [-1,0,(k:Int),(k:Int)-1,200] _ (by exact Gp.o.1.new (Bq)) (by simp) (by simp) (by have:=Gp.o.1.lt;omega) (fun i hi=>QQj hH i hi)).mono ?_;rintro e w3 ⟨r,rfl,hr,Gj,H9⟩;have GE:=hid ((Gp.o.new ((Below.refl _ _).alloc (Nat.le_refl _) (.cells (([-1,0,(k:Int),(k:Int)-1,200]:List Int).map (Value.int .i64)).toArray 3))).call Gj H9);have hrb:-9223372036854775808≤r∧r≤9223372036854775807:=by simp at hr;omega
    clear n0 n1 f0 f1 GG hH Gj H9 g8 H3 GU Gh hr;obtain⟨n0,n1,f0,f1,GG⟩:=GE.o.cells hk;have hE:=hid (GE.o.parent (N:=N) (M:=M) hk (by omega) (fun n hn=>by have:=HM.o n hn;omega) r hrb);go_wp2_with fail;go_meet;exact hE.o
   ·obtain⟨n0,n1,f0,f1,GG⟩:=Gp.o.cells hk;go_wp2_with fail;refine(QUg B b 8 _ (by exact Gp.o.1.new (Bq)) (by omega) (by omega)).mono ?_;rintro e w3 ⟨q,rfl,q0,q1,Gj,H9⟩;obtain⟨q,rfl⟩:=Int.eq_ofNat_of_zero_le q0;obtain⟨s,Gn,K5⟩:=QIc QSi q (by have:QSi.length=8:=rfl;omega);have GE:=hid ((Gp.o.new ((Below.refl _ _).alloc (Nat.le_refl _) (.cells (QSi.map Value.string).toArray 9))).call Gj H9);have hH:=(Holds.new w2 (QSi.map Value.string).toArray 9).keeps H9 (by have:=Gp.o.1.lt;omega);have hc:w3.cell? ⟨w2.heap.size,q,none⟩=some (.string s):=(hH.cell q).trans (by simp[Gn]);have gG:=hH.lt;clear n0 n1 f0 f1 GG hH Gj H9 g8 H3 GU Gh;obtain⟨n0,n1,f0,f1,GG⟩:=GE.o.cells hk;have hE:=hid (GE.o.name (N:=N) (M:=M) hk (by omega) (fun n hn=>by have:=HM.o n hn;omega) s (Q3n K5));go_wp2_with fail;go_meet;exact hE.o
   ·go_wp2_with fail;refine Qki (c':=Qxf 19) (by kernel_rfl) ?_;refine Qsr B b _ _ N M g vc k T w _ hk (by omega) (by omega) HM.o (by omega) Gp ?_;refine hid ?_;intro y74 y75 y76 y77 y78 y79 y80 y81 y82 y83 y84 y85 wx hE;go_wp2_with fail;go_meet;exact hE
   ·go_wp2_with fail;refine Qki (c':=Qxf 21) (by kernel_rfl) ?_;refine Qtr B b _ _ N M g vc k T w _ hk (by omega) (by omega) HM.o (by omega) Gp ?_;refine hid ?_;intro y88 y89 y90 y91 y92 y93 y94 y95 y96 y97 y98 y99 y100 y101 y102 wx hE;go_wp2_with fail;go_meet;exact hE
   ·go_wp2_with fail;refine Qki (c':=Qxf 23) (by kernel_rfl) ?_;refine Qur B b _ _ N M g vc k T w _ hk (by omega) (by omega) HM.o (by omega) Gp ?_;refine hid ?_;intro y105 y106 y107 y108 y109 y110 y111 y112 y113 y114 wx hE;go_wp2_with fail;go_meet;exact hE
   ·obtain⟨xs,iM,gX,Ae,hW2⟩:∃xs,w2.ownsRow w.heap.size 46 3 (.slice (some ⟨g,0,none⟩) T.length vc) T.length xs∧w2.cell? ⟨w.heap.size+1+1,0,none⟩=some (.slice (some ⟨g,0,none⟩) T.length vc)∧w.heap.size+1+1<w2.heap.size∧w.heap.size≤w2.heap.size:=by
     obtain⟨_,h2,_,⟨_,pvs,q1,q2,_⟩,h5,_⟩:=Gp.o;exact⟨_,q2,h2.cell 0,h2.lt,h5.size⟩
    obtain⟨i0,hi,Hz,Ho,H4⟩:=info_parts QRg;have e1:T.length+1≤maxLen:=by unfold maxLen;omega
    have HX:=hid iM;clear iM;go_wp2_with(at_builtin;refine wpList_append_own _ rfl _ _ 25 rfl w.heap.size 46 i0 (.agg #[.int .i64 0,.string ⟨#[]⟩,.slice none 0 0]) 3 48 underlying25 hi Hz Ho H4 rfl (by decide) _ T.length xs rfl (by exact World.ownsRow.alloc HX.o _) ⟨w2.heap.size,0,none⟩ 1 1 [.int .i64 k,.string ⟨#[122,122]⟩,.slice none 0 0] rfl rfl (by exact Q8a _ _ _ _ rfl _ rfl) (by intro u hu;simp at hu;rcases hu with rfl|rfl|rfl <;> rfl) e1 (by omega) (by simp;omega) ?_);intro v' w5 Hj Hd _;obtain⟨m0,m1,m2,hE⟩:=Gp.o.node (nd:=⟨k,⟨#[122,122]⟩,[]⟩) (N:=N) (M:=M) rfl (by omega) (fun n hn=>by have:=HM.o n hn;omega) (by simp) (Qna.nil _ _) ⟨by show(⟨#[122,122]⟩:ByteArray).size≤_;decide,by show _≤(k:Int);omega,by show(k:Int)≤_;omega⟩ HX.o Hj Hd;obtain⟨va,vc2,rfl⟩:=Qea Hj;have HE:=hid hE;clear Hj Hd hE HX;go_wp2_with fail;go_meet;exact HE.o
   ·go_wp2_with fail;have hH:=Holds.new w2 (([256,257]:List Int).map (Value.int .i64)).toArray 3;refine(QSh B b w2.heap.size 0 2 [256,257] _ (by exact Gp.o.1.new (Bq)) (by simp) (by simp) (by have:=Gp.o.1.lt;omega) (fun i hi=>QQj hH i hi)).mono ?_;rintro e w3 ⟨r,rfl,hr,Gj,H9⟩;have GE:=hid ((Gp.o.new ((Below.refl _ _).alloc (Nat.le_refl _) (.cells (([256,257]:List Int).map (Value.int .i64)).toArray 3))).call Gj H9);obtain⟨n,rfl,Mq,mg⟩:∃n:Nat,r=(n:Int)∧1≤n∧n≤257:=by
     simp at hr;rcases hr with rfl|rfl
     ·exact⟨256,rfl,by omega,by omega⟩
     exact⟨257,rfl,by omega,by omega⟩
    have bR:=QKi n (by omega);have dS:=hid (GE.o.new ((Below.refl _ _).alloc (Nat.le_refl _) (.cells (Array.replicate n (.int .u8 0)) 5)));have jn:=QLi w3 n w.heap.size GE.o.2.2.2.2.1.size mg;clear hH Gj H9 g8 H3 GU Gh hr;go_wp2_with fail;refine Qki (c':=Qxf 28) (by kernel_rfl) ?_;obtain⟨acc,aw,jn⟩:=jn;subst aw;refine Qvr B b _ _ N M g vc k T w _ hk (by omega) (by omega) HM.o (by omega) (some ⟨w3.heap.size,0,none⟩) acc.length acc (by omega) jn dS ?_;refine hid ?_;intro y130 y131 y132 y133 y134 y135 y136 y137 y138 y139 y140 y141 wx hE;go_wp2_with fail;go_meet;exact hE
   ·obtain⟨pa,pc,c0⟩:=Gp.o.props hk;have GG:=(Gp.o.cells hk).2.2.2.2;by_cases hlp:1<T[k].props.length
    ·have uT:(1:Int)<(T[k].props.length:Int):=by omega
     go_wp2_with fail;refine Qki (c':=Qxf 31) (by kernel_rfl) ?_;refine Qwr B b _ _ N M g vc k T w _ hk (by omega) (by omega) HM.o (by omega) hlp Gp ?_;refine hid ?_;intro y150 y151 y152 y153 y154 y155 y156 y157 y158 y159 y160 y161 y162 y163 y164 y165 y166 y167 y168 y169 y170 y171 wx hE;go_wp2_with fail;go_meet;exact hE
    have uT:¬(1:Int)<(T[k].props.length:Int):=by omega
    have hE:=hid (Gp.o.ends (N:=N) (M:=M) (by omega) (fun n hn=>by have:=HM.o n hn;omega));go_wp2_with fail;go_meet;exact hE.o
   have x0:=Gp.o.2.1.cell 0;have xf:=Gp.o.2.1.free 0;have xl:=Gp.o.2.1.lt;have hE:=hid (Gp.o.cut (N:=N) (M:=M) (k:=k) (by omega) (by omega) (fun n hn=>by have:=HM.o n hn;omega));have yy:k≤vc:=by
    obtain⟨_,_,_,⟨_,pvs,q1,q2,_⟩,_⟩:=Gp.o;rcases q2.2 with⟨e,_⟩|⟨_,_,_,e,_,_,hc,_⟩
    ·cases e
    cases e;omega
   go_wp2_with fail;go_meet;exact hE.o
  case rest=>
   obtain⟨a',c',T',e1,e2,e3,e4,e5,e6,e7⟩:Qre B b (w.heap.size+1+1) (w.heap.size+1) N M w wc:=hcut;have x0:=e1.cell 0;have xl:=e1.lt;have z0:=e2.cell 0;have zf:=e2.free 0;have zl:=e2.lt;have q0:=(e2.set 0 (.slice a' T'.length c')).cell 0;have kZ:=e3.set e2 (by decide) (by decide) 0 (.slice a' T'.length c');have Gj:QFb B (wc.setCell ⟨w.heap.size+1,0,none⟩ (.slice a' T'.length c')) b:=e6.keeps ((Qaa.refl (fun i=>i=w.heap.size+1) wc).setCell (p:=⟨w.heap.size+1,0,none⟩) (.inr rfl) _) (fun i e=>by have:=nG.o.1;subst e;omega);have H9:Qaa (fun i=>i=b) w (wc.setCell ⟨w.heap.size+1,0,none⟩ (.slice a' T'.length c')):=e7.setCell (p:=⟨w.heap.size+1,0,none⟩) (.inl (by simp)) _;have HF:=hid (And.intro q0 (And.intro kZ (And.intro Gj (And.intro H9 (And.intro e4 e5)))));clear q0 kZ Gj H9 e1 e2 e3 e4 e5 e6 e7 Gp;go_wp2_with fail;obtain⟨q0,kZ,Gj,H9,e4,e5⟩:=HF.o;exact bodyPost_ret (v:=.agg #[.slice a' T'.length c']) (by simp[results,Tryz.results25,go_sem,q0]) rfl ⟨_,T',rfl,kZ,e4,e5,Gj,H9⟩
def Qtn(b N M:Nat)(u:Value)(w:World):Prop:=∃a c D,u=.agg #[.slice a (List.length D) c]∧Qoa (fun g=>g≠b) w (.slice a (List.length D) c) D∧List.length D≤N∧∀n∈D,n.props.length≤M
def QOf(b k:Nat)(u:Value)(w:World):Prop:=∃g,u=.slice (some ⟨g,0,none⟩) k k∧g≠b∧∀j:Nat,j<k→∃a c X,w.cell? ⟨g,j,none⟩=some (.slice a (List.length X) c)∧Qoa (fun g=>g≠b) w (.slice a (List.length X) c) X
theorem Qtn.keep{b N M:Nat}{u:Value}{w w':World}(h:Qtn b N M u w)(k:Qaa (fun i=>i=b) w w'):Qtn b N M u w':=by
 obtain⟨a,c,D,h1,h2,h3⟩:=h;exact⟨a,c,D,h1,h2.keeps k (fun _ h e=>h e),h3⟩
theorem QOf.keep{b n:Nat}{u:Value}{w w':World}(h:QOf b n u w)(k:Qaa (fun i=>i=b) w w'):QOf b n u w':=by
 obtain⟨g,h1,h2,h3⟩:=h;refine⟨g,h1,h2,fun j hj=>?_⟩;obtain⟨a,c,X,h4,h5⟩:=h3 j hj;exact⟨a,c,X,(k.cell (p:=⟨g,j,none⟩) (World.block_lt_of_cell? w _ h4) h2).trans h4,h5.keeps k (fun _ h e=>h e)⟩
noncomputable def Q3e(n:Nat):Array Oper:=(QPa (Tryz.f6.body.getD .skip) n).getD #[]
theorem Q7u:Q0b .any (Q3e 19)=true:=by kernel_rfl
theorem Qek:QRb (Q3e 19)=true:=by kernel_rfl
theorem QXt:(Q3e 19).size=8:=by kernel_rfl
def QQs(b N M:Nat)(xa:Option Addr)(xc:Nat)(X:List Qba)(aa:Option Addr)(ac:Nat)(A:List Qba)(j:Nat):Value→World→Prop:=match j with
 | 0=>fun u _=>u=.agg #[.slice xa X.length xc]
 | 1=>fun u _=>u=.agg #[.slice aa A.length ac]
 | 2=>fun u _=>u=.pointer (some ⟨b,0,none⟩)
 | 3=>fun u _=>u=.agg #[.slice aa A.length ac]
 | 4=>fun u w=>Qtn b (N+1) (M+1) u w
 | 5=>fun u w=>QOf b 3 u w
 | 6=>fun u _=>u=.int .i64 3
 | 7=>fun u _=>u=.int .i64 0
 | _=>fun _ _=>True
theorem QQs.keep{b N M:Nat}{xa:Option Addr}{xc:Nat}{X:List Qba}{aa:Option Addr}{ac:Nat}{A:List Qba}{j:Nat}{u:Value}{w w':World}(h:QQs b N M xa xc X aa ac A j u w)(k:Qaa (fun i=>i=b) w w'):QQs b N M xa xc X aa ac A j u w':=by
 unfold QQs at *
 split at h
 all_goals first
  | exact h
  | exact Qtn.keep h k
  | exact QOf.keep h k
theorem Qzn{Q:Exit→Act→World→Prop}(B b N M Xb Ab:Nat)(xa:Option Addr)(xc:Nat)(X:List Qba)(aa:Option Addr)(ac:Nat)(A:List Qba)(W w:World)(Ac:Act)(hsz:Ac.tmps.size=161)(hAl:A.length≤N)(hAm:∀n∈A,n.props.length≤M)(hN:N≤800)(hM:M≤800)
 (hXW:Holds W Xb #[.slice xa X.length xc] 27) (hAW:Holds W Ab #[.slice aa A.length ac] 27) (jV:Xb≠b) (KN:Ab≠b) (hXN:Qoa (fun g=>g≠b) W (.slice xa X.length xc) X) (hAN:Qoa (fun g=>g≠b) W (.slice aa A.length ac) A)
 (ax:Ac.tmps.getD 5 undef=.pointer (some ⟨Xb,0,none⟩)) (aa':Ac.tmps.getD 8 undef=.pointer (some ⟨Ab,0,none⟩)) (at_:Ac.tmps.getD 7 undef=.pointer (some ⟨b,0,none⟩))
 (hS:QFb B w b∧Qaa (fun i=>i=b) W w)
 (hQ:∀c w',Qpb (Q3e 19) Ac c→QFb B w' b→Qaa (fun i=>i=b) W w'→QOf b 3 (c.tmps.getD 124 undef) w'→c.tmps.getD 125 undef=.int .i64 3→c.tmps.getD 126 undef=.int .i64 0→Q .normal c w') :
 wpAny prog .any (Q3e 19) Q (Q3e 19).size (Array.replicate (Q3e 19).size false) Ac w:=by
 refine QNa (fun l c wx=>QCd (Q3e 19) Ac (QQs b N M xa xc X aa ac A) (fun wx=>QFb B wx b∧Qaa (fun i=>i=b) W wx) l c wx) Q7u ?hend ?Hk _ _ _ _ (by simp) (by simp) (QCd.start hS)
 case hend=>
  intro l c wx hI hl;have hh:∀k,k<8→l.getD k false=true:=fun k hk=>hl k (by rw[QXt];exact hk);exact hQ c wx hI.1 hI.2.1.1 hI.2.1.2 (hI.fact 5 124 rfl (hh 5 (by decide))) (hI.fact 6 125 rfl (hh 6 (by decide))) (hI.fact 7 126 rfl (hh 7 (by decide)))
 intro l c wx hI i' op ho _ Ha K' hK';have hi:i'<8:=by rw[←QXt];exact(Array.getElem?_eq_some_iff.1 ho).1
 simp only[Q3e,QPa,Tryz.f6,Option.getD_some,reduceIte,Nat.reduceEqDiff]at ho;have hS:=hI.2.1;have sx:=(hI.slot 5 (by kernel_rfl)).trans ax;have sa:=(hI.slot 8 (by kernel_rfl)).trans aa';have st:=(hI.slot 7 (by kernel_rfl)).trans at_;simp only[Array.getD_eq_getD_getElem?]at sx sa st;have GB:i'=0∨i'=1∨i'=2∨i'=3∨i'=4∨i'=5∨i'=6∨i'=7:=by omega
 rcases GB with rfl|rfl|rfl|rfl|rfl|rfl|rfl|rfl
 all_goals cases ho
 ·have c0:=(hXW.keeps hS.2 jV).cell 0;have cl:=(hXW.keeps hS.2 jV).lt;go_simp;exact hK' _ _ (hI.step Qek 0 119 rfl (by rw[hsz];decide) _ _ rfl Ha hS (fun _ _ h=>h) rfl)
 ·have c0:=(hAW.keeps hS.2 KN).cell 0;have cl:=(hAW.keeps hS.2 KN).lt;go_simp;exact hK' _ _ (hI.step Qek 1 120 rfl (by rw[hsz];decide) _ _ rfl Ha hS (fun _ _ h=>h) rfl)
 ·go_simp;exact hK' _ _ (hI.step Qek 2 121 rfl (by rw[hsz];decide) _ _ rfl Ha hS (fun _ _ h=>h) rfl)
 ·have c0:=(hAW.keeps hS.2 KN).cell 0;have cl:=(hAW.keeps hS.2 KN).lt;go_simp;exact hK' _ _ (hI.step Qek 3 122 rfl (by rw[hsz];decide) _ _ rfl Ha hS (fun _ _ h=>h) rfl)
 ·have e1:=gE (hI.fact 2 121 rfl (Qma Ha 2 (by kernel_rfl)):(c.tmps.getD 121 undef)=.pointer (some ⟨b,0,none⟩));have e2:=gE (hI.fact 3 122 rfl (Qma Ha 3 (by kernel_rfl)):(c.tmps.getD 122 undef)=.agg #[.slice aa A.length ac]);go_simp;refine(QCp B b (N+1) (M+1) (fun g=>g≠b) _ A wx hS.1 (hAN.keeps hS.2 (fun _ h e=>h e)) (by omega) (by omega) (fun n hn=>by have:=hAm n hn;omega) (by omega)).mono ?_;rintro e w2 ⟨v2,D,rfl,Gz,gS,pD,Kk,k2⟩;obtain⟨da,dc,rfl⟩:=Qnc Gz;go_simp;have HJ:QFb B w2 b∧Qaa (fun i=>i=b) W w2:=⟨Kk,hS.2.trans k2 (fun _ _ e=>e)⟩;have jm:=hS.1.lt;exact hK' _ _ (hI.step Qek 4 123 rfl (by rw[hsz];decide) _ _ rfl Ha HJ (fun _ _ h=>QQs.keep h k2) ⟨da,dc,D,rfl,Gz.in.mono (fun g h e=>by subst e;omega),gS,pD⟩)
 ·have e0:=gE (hI.fact 0 119 rfl (Qma Ha 0 (by kernel_rfl)):(c.tmps.getD 119 undef)=.agg #[.slice xa X.length xc]);have e1:=gE (hI.fact 1 120 rfl (Qma Ha 1 (by kernel_rfl)):(c.tmps.getD 120 undef)=.agg #[.slice aa A.length ac]);obtain⟨ba4,bc4,D4,e2,Au,yi,hm4⟩:Qtn b (N+1) (M+1) (c.tmps.getD 123 undef) wx:=hI.fact 4 123 rfl (Qma Ha 4 (by kernel_rfl));simp only[Array.getD_eq_getD_getElem?]at e2;go_simp;have Hc:Below wx.heap.size wx (wx.alloc (.cells #[.slice xa X.length xc,.slice aa A.length ac,.slice ba4 D4.length bc4] 27)):=Bq;have k2:=Qaa.of_fresh Hc (fun i=>i=b);have HJ:QFb B (wx.alloc (.cells #[.slice xa X.length xc,.slice aa A.length ac,.slice ba4 D4.length bc4] 27)) b∧Qaa (fun i=>i=b) W (wx.alloc (.cells #[.slice xa X.length xc,.slice aa A.length ac,.slice ba4 D4.length bc4] 27)):=⟨hS.1.new Hc,hS.2.trans k2 (fun _ _ e=>e)⟩;have hL:=Holds.new wx #[.slice xa X.length xc,.slice aa A.length ac,.slice ba4 D4.length bc4] 27;have jm:=hS.1.lt;have hT:QOf b 3 (.slice (some ⟨wx.heap.size,0,none⟩) 3 3) (wx.alloc (.cells #[.slice xa X.length xc,.slice aa A.length ac,.slice ba4 D4.length bc4] 27)):=⟨wx.heap.size,rfl,by omega,fun j hj=>by
   have Ge:j=0∨j=1∨j=2:=by omega
   rcases Ge with rfl|rfl|rfl
   ·exact⟨_,_,_,hL.cell 0,hXN.keeps HJ.2 (fun _ h e=>h e)⟩
   ·exact⟨_,_,_,hL.cell 1,hAN.keeps HJ.2 (fun _ h e=>h e)⟩
   exact⟨_,_,_,hL.cell 2,Au.keeps k2 (fun _ h e=>h e)⟩⟩
  exact hK' _ _ (hI.step Qek 5 124 rfl (by rw[hsz];decide) _ _ rfl Ha HJ (fun _ _ h=>QQs.keep h k2) hT)
 ·obtain⟨lg5,e0,hg5⟩:QOf b 3 (c.tmps.getD 124 undef) wx:=hI.fact 5 124 rfl (Qma Ha 5 (by kernel_rfl));simp only[Array.getD_eq_getD_getElem?]at e0;go_simp;exact hK' _ _ (hI.step Qek 6 125 rfl (by rw[hsz];decide) _ _ rfl Ha hS (fun _ _ h=>h) rfl)
 go_simp;exact hK' _ _ (hI.step Qek 7 126 rfl (by rw[hsz];decide) _ _ rfl Ha hS (fun _ _ h=>h) rfl)
def Qjt:List ByteArray:=[⟨#[]⟩,⟨#[47,113]⟩,⟨#[47,47]⟩,⟨#[97]⟩,⟨#[47,97,47]⟩]
theorem Qxk(B b base:Nat)(v:Value)(T:List Qba)(w:World)(h:QFb B w b)(hT:Qda w base v T)(h1:0<T.length)(h2:T.length≤1000) :
 Calls prog 30 #[.pointer (some ⟨b,0,none⟩),.agg #[v]] w fun e w'=>∃s,e=.returned (.string s)∧QFb B w' b∧Qaa (· = b) w w':=by
 obtain⟨a,cap,rfl⟩:=hT.slice;have Hh:=h.lt;have HT:=hid hT;clear hT;have He:Below w.heap.size w (w.alloc (.cells #[.slice a T.length cap] 27)):=Bq;have Gb:=Holds.new w #[.slice a T.length cap] 27;go_enter func30,ntmps30;go_wp2_with fail;refine(QUg B b 30 _ (h.new He) (by omega) (by omega)).mono ?_;rintro e w1 ⟨r,rfl,r0,r1,GU,Gh⟩;have Hr:=Gb.keeps Gh (by omega);have Je:=(HT.o.new He).tape (h.new He) Gh;have hK:Qaa (· = b) w w1:=(Qaa.of_fresh He (fun i=>i=b)).trans Gh (fun _ _ e=>e);by_cases hr:r=29
 ·have hr':(r==29)=true:=by simp[hr]
  clear hr;go_wp2_with fail;refine(QUg B b 5 _ (GU.new (Bq)) (by omega) (by omega)).mono ?_;rintro e w2 ⟨q,rfl,q0,q1,g8,H3⟩;obtain⟨q,rfl⟩:=Int.eq_ofNat_of_zero_le q0;have Jp:=GU.lt;have hH:=(Holds.new w1 (Qjt.map Value.string).toArray 9).keeps H3 (by omega);obtain⟨s,Gn,_⟩:=QIc Qjt q (by have:Qjt.length=5:=rfl;omega);have hc:w2.cell? ⟨w1.heap.size,q,none⟩=some (.string s):=(hH.cell q).trans (by simp[Gn]);have oe:Qaa (fun i=>i=b) w w2:=(hK.alloc _).trans H3 (fun _ _ e=>e);go_wp2_with fail;go_ret;exact⟨s,rfl,g8,oe⟩
 have hr':(r==29)=false:=by simpa using hr
 clear hr;have x0:=Hr.cell 0;have xl:=Hr.lt;have jV:w.heap.size≠b:=by omega
 have tR:QFb B w1.drew b:=GU.keeps ((Qaa.refl (fun _=>False) w1).drew) (fun _ e=>e.elim);have vu:=hid (fun(wx:World) (node:Int) (hx:Qoa (fun g=>base≤g) wx (.slice a T.length cap) T)=>Q5k (fun g=>base≤g) (.slice a T.length cap) T node wx hx);have Kx:=hid Je;clear Je;go_wp2_with fail
 go_region_with (first
  | (go_at_call 27;refine(QUg B b T.length _ (by exact tR) (by omega) (by omega)).mono ?_;rintro e w2 ⟨q,rfl,q0,q1,g8,H3⟩;have Kz:Qaa (· = b) w1 w2:=((Qaa.refl (fun i=>i=b) w1).drew).trans H3 (fun _ _ e=>e);have gw:=Hr.keeps Kz jV;have k0:=gw.cell 0;have kl:=gw.lt;have kZ:=Kx.o.tape GU Kz)
  | (go_at_call 15;refine(vu.o _ q (by exact kZ.in)).mono ?_;rintro e w3 ⟨rfl,Hg⟩;have Gj:=g8.new Hg;have oe:=(hK.trans Kz (fun _ _ e=>e)).trans (Qaa.of_fresh Hg (fun i=>i=b)) (fun _ _ e=>e)))
 all_goals
  go_wp2_with fail;go_ret;exact⟨_,rfl,Gj,oe⟩
def Qte(T T':List Qba)(er:Int):Prop:=er=0→∃s nm,(QQc T s nm).2=0∧T'=(QQc T s nm).1
def StF(b base:Nat)(v:Value)(T:List Qba)(sv:Value)(er:Int)(T':List Qba)(N:Nat)(j:Nat)(u:Value)(w:World):Prop:=
 if j=0∨j=2 then u=.agg #[v]
 else if j=1∨j=4 then u=.pointer (some ⟨b,0,none⟩)
 else if j=3 then ∃s,u=.string s
 else if j=5 then ∃s,u=.string s∧s∈QFk
 else if j=6∨j=7 then u=.tuple #[.agg #[sv],.int .i64 er]∧Qda w base sv T'∧Qte T T' er
 else if j=8 then u=.agg #[sv]
 else if j=10 then u=.pointer (some ⟨N,0,none⟩)∧N≠b∧∃x,Holds w N #[x] 27
 else if j=11 then Holds w N #[sv] 27
 else u=.int .i64 er
def StS(B b base:Nat)(v:Value)(T:List Qba)(X:Nat)(W w:World):Prop:=QFb B w b∧Qda w base v T∧Holds w X #[v] 27∧Holds w (X+1) #[.slice none 0 0] 27∧Qaa (· = b) W w
theorem StF.keeps{B b base:Nat}{v:Value}{T:List Qba}{sv:Value}{er:Int}{T':List Qba}{N j:Nat}{u:Value}{w w':World}(h:StF b base v T sv er T' N j u w)(hT:QFb B w b)(k:Qaa (· = b) w w')(hN:N≠b):StF b base v T sv er T' N j u w':=by
 unfold StF at *
 split at h
 ·rename_i hc;rw[if_pos hc];exact h
 rename_i h1;rw[if_neg h1];split at h
 ·rename_i hc;rw[if_pos hc];exact h
 rename_i h2;rw[if_neg h2];split at h
 ·rename_i hc;rw[if_pos hc];exact h
 rename_i h3;rw[if_neg h3];split at h
 ·rename_i hc;rw[if_pos hc];exact h
 rename_i h4;rw[if_neg h4];split at h
 ·rename_i hc;rw[if_pos hc];exact⟨h.1,h.2.1.tape hT k,h.2.2⟩
 rename_i h5;rw[if_neg h5];split at h
 ·rename_i hc;rw[if_pos hc];exact h
 rename_i h6;rw[if_neg h6];split at h
 ·rename_i hc;rw[if_pos hc];obtain⟨e,e2,x,hH⟩:=h;exact⟨e,e2,x,hH.keeps k e2⟩
 rename_i h7;rw[if_neg h7];split at h
 ·rename_i hc;rw[if_pos hc];exact Holds.keeps h k hN
 rename_i h8;rw[if_neg h8];exact h
theorem StS.keeps{B b base:Nat}{v:Value}{T:List Qba}{X:Nat}{W w w':World}(h:StS B b base v T X W w)(h1:X≠b)(h2:X+1≠b)(k:Qaa (· = b) w w'):QFb B w' b→StS B b base v T X W w':=fun ht=>
 ⟨ht,h.2.1.tape h.1 k,h.2.2.1.keeps k h1,h.2.2.2.1.keeps k h2,h.2.2.2.2.trans k (fun _ _ e=>e)⟩
theorem QXr:∀s∈QFk,s.size≤20:=by decide
theorem StF.ghost{b base:Nat}{v:Value}{T:List Qba}{sv:Value}{er:Int}{T':List Qba}{N j:Nat}{u:Value}{w:World}{sv2:Value}{er2:Int}{T2:List Qba}(h:StF b base v T sv er T' N j u w)(hj:j<6∨j=10):StF b base v T sv2 er2 T2 N j u w:=by
 rcases(show j=0∨j=1∨j=2∨j=3∨j=4∨j=5∨j=10 from by omega)with rfl|rfl|rfl|rfl|rfl|rfl|rfl <;> exact h
theorem StF.ghostN{b base:Nat}{v:Value}{T:List Qba}{sv:Value}{er:Int}{T':List Qba}{N j:Nat}{u:Value}{w:World}{N2:Nat}(h:StF b base v T sv er T' N j u w)(hj:j<13)(h1:j≠10)(h2:j≠11):StF b base v T sv er T' N2 j u w:=by
 rcases(show j=0∨j=1∨j=2∨j=3∨j=4∨j=5∨j=6∨j=7∨j=8∨j=9∨j=12 from by omega)with rfl|rfl|rfl|rfl|rfl|rfl|rfl|rfl|rfl|rfl|rfl <;> exact h
theorem StF.store{b base:Nat}{v:Value}{T:List Qba}{sv:Value}{er:Int}{T':List Qba}{N j:Nat}{u x:Value}{w:World}(h:StF b base v T sv er T' N j u w)(hH:Holds w N #[x] 27):StF b base v T sv er T' N j u (w.setCell ⟨N,0,none⟩ sv):=by
 unfold StF at *
 split at h
 ·rename_i hc;rw[if_pos hc];exact h
 rename_i h1;rw[if_neg h1];split at h
 ·rename_i hc;rw[if_pos hc];exact h
 rename_i h2;rw[if_neg h2];split at h
 ·rename_i hc;rw[if_pos hc];exact h
 rename_i h3;rw[if_neg h3];split at h
 ·rename_i hc;rw[if_pos hc];exact h
 rename_i h4;rw[if_neg h4];split at h
 ·rename_i hc;rw[if_pos hc];exact⟨h.1,h.2.1.set hH (by decide) (by decide) 0 sv,h.2.2⟩
 rename_i h5;rw[if_neg h5];split at h
 ·rename_i hc;rw[if_pos hc];exact h
 rename_i h6;rw[if_neg h6];split at h
 ·rename_i hc;rw[if_pos hc];exact⟨h.1,h.2.1,_,hH.set 0 sv⟩
 rename_i h7;rw[if_neg h7];split at h
 ·rename_i hc;rw[if_pos hc];exact hH.set 0 sv
 rename_i h8;rw[if_neg h8];exact h
theorem StS.store{B b base:Nat}{v:Value}{T:List Qba}{X N:Nat}{x sv:Value}{W w:World}(h:StS B b base v T X W w)(hH:Holds w N #[x] 27)(h1:X+2≤N)(hX:X=W.heap.size)(hb:b<X)(hB:B≤X):StS B b base v T X W (w.setCell ⟨N,0,none⟩ sv):=by
 have k:Qaa (· = N) w (w.setCell ⟨N,0,none⟩ sv):=(Qaa.refl (· = N) w).setCell (p:=⟨N,0,none⟩) (Or.inr rfl) sv;refine⟨h.1.keeps k (fun i e=>by subst e;omega),h.2.1.set hH (by decide) (by decide) 0 sv,h.2.2.1.keeps k (by omega),h.2.2.2.1.keeps k (by omega),h.2.2.2.2.trans k (fun i hi e=>by omega)⟩
theorem StS.fin{B b base:Nat}{v:Value}{T:List Qba}{X:Nat}{W w:World}(h:StS B b base v T X W w)(hX:X=W.heap.size)(hb:b<X)(hB:B≤X)(y:Value) :
 QFb B (w.setCell ⟨X+1,0,none⟩ y) b∧Qaa (· = b) W (w.setCell ⟨X+1,0,none⟩ y)∧Holds (w.setCell ⟨X+1,0,none⟩ y) (X+1) #[y] 27∧∀v' T',Qda w base v' T'→Qda (w.setCell ⟨X+1,0,none⟩ y) base v' T':=by
 have k:Qaa (· = X+1) w (w.setCell ⟨X+1,0,none⟩ y):=(Qaa.refl (· = X+1) w).setCell (p:=⟨X+1,0,none⟩) (Or.inr rfl) y;exact⟨h.1.keeps k (fun i e=>by subst e;omega),h.2.2.2.2.trans k (fun i hi e=>by omega),h.2.2.2.1.set 0 y,fun v' T' hr=>hr.set h.2.2.2.1 (by decide) (by decide) 0 y⟩
theorem QDp(B b base:Nat)(v:Value)(T:List Qba)(w:World)(h:QFb B w b)(hT:Qda w base v T)(h1:0<T.length)(h2:T.length≤1000)(gx:base≤w.heap.size) :
 Calls prog 28 #[.pointer (some ⟨b,0,none⟩),.agg #[v]] w fun e w'=>∃v' T',e=.returned (.agg #[v'])∧Qda w' base v' T'∧(T'=T∨Qte T T' 0)∧QFb B w' b∧Qaa (· = b) w w':=by
 obtain⟨a,cap,rfl⟩:=hT.slice;have Hh:=h.lt;have fG:B≤w.heap.size:=Nat.le_trans h.1 (Nat.le_of_lt Hh);have He:Below w.heap.size w ((w.alloc (.cells #[.slice a T.length cap] 27)).alloc (.cells #[.slice none 0 0] 27)):=(Bq).alloc (by simp) _;have Gb:=(Holds.new w #[.slice a T.length cap] 27).alloc (.cells #[.slice none 0 0] 27);have gX:=Holds.newAt (w:=w.alloc (.cells #[.slice a T.length cap] 27)) (B:=w.heap.size+1) (by simp) #[.slice none 0 0] 27;have bL:=hT.new He;have Ki:=h.new He;have qU:w.heap.size≠b:=by omega
 have cV:w.heap.size+1≠b:=by omega
 have HR:=hid bL;clear hT bL;go_enter func28,ntmps28;go_wp2_with fail;have jH:StS B b base (.slice a T.length cap) T w.heap.size w ((w.alloc (.cells #[.slice a T.length cap] 27)).alloc (.cells #[.slice none 0 0] 27)).drew:=
  ⟨Ki.keeps ((Qaa.refl (fun _=>False) _).drew) (fun _ e=>e.elim),HR.o,Gb,gX,(Qaa.of_fresh He (fun i=>i=b)).drew⟩
 generalize(w.alloc (.cells #[.slice a T.length cap] 27)).alloc (.cells #[.slice none 0 0] 27)=W0 at *
 refine wp_region_any (by kernel_rfl) ?_;refine QNa (fun l c wx=>∃sv er T' N,QCd _ _ (StF b base (.slice a T.length cap) T sv er T' N) (StS B b base (.slice a T.length cap) T w.heap.size w) l c wx∧w.heap.size+2≤N) (by kernel_rfl) ?hend ?Hk _ _ _ _ (by rfl) (by decide) ⟨.slice none 0 0,0,[],w.heap.size+2,QCd.start jH,by omega⟩
 case Hk=>
  intro l c wx hI i o ho hl Ha K' hK';obtain⟨sv,er,T',N,hI,kQ⟩:=hI;have cN:N≠b:=by omega
  have Jl:i<13:=(Array.getElem?_eq_some_iff.1 ho).1;have qP:=hI.2.1;have KM:=hid qP;have hX:=qP.2.2.1.cell 0;have xP:=qP.2.2.1.lt;have GB:i=0∨i=1∨i=2∨i=3∨i=4∨i=5∨i=6∨i=7∨i=8∨i=9∨i=10∨i=11∨i=12:=by omega
  clear qP;rcases GB with rfl|rfl|rfl|rfl|rfl|rfl|rfl|rfl|rfl|rfl|rfl|rfl|rfl
  all_goals cases ho
  all_goals have s3:=hI.slot 3 (by kernel_rfl)
  all_goals have s0:=hI.slot 0 (by kernel_rfl)
  all_goals simp only[Array.getD_eq_getD_getElem?]at s3 s0
  ·go_simp;exact hK' _ _ ⟨sv,er,T',N,hI.step (by kernel_rfl) 0 8 rfl (Nat.le_of_ble_eq_true (by kernel_rfl)) _ _ rfl Ha KM.o (fun _ _ h=>h) rfl,kQ⟩
  ·go_simp;exact hK' _ _ ⟨sv,er,T',N,hI.step (by kernel_rfl) 1 9 rfl (Nat.le_of_ble_eq_true (by kernel_rfl)) _ _ rfl Ha KM.o (fun _ _ h=>h) rfl,kQ⟩
  ·go_simp;exact hK' _ _ ⟨sv,er,T',N,hI.step (by kernel_rfl) 2 10 rfl (Nat.le_of_ble_eq_true (by kernel_rfl)) _ _ rfl Ha KM.o (fun _ _ h=>h) rfl,kQ⟩
  ·have e1:=gE (hI.fact 1 9 rfl (Qma Ha 1 (by kernel_rfl)):c.tmps.getD 9 undef=.pointer (some ⟨b,0,none⟩));have e2:=gE (hI.fact 2 10 rfl (Qma Ha 2 (by kernel_rfl)):c.tmps.getD 10 undef=.agg #[.slice a T.length cap]);go_simp;refine(Qxk B b base _ T wx KM.o.1 KM.o.2.1 h1 h2).mono ?_;rintro e w2 ⟨s,rfl,Kk,k2⟩;go_simp;have HJ:=StS.keeps KM.o qU cV k2 Kk;exact hK' _ _ ⟨sv,er,T',N,hI.step (by kernel_rfl) 3 11 rfl (Nat.le_of_ble_eq_true (by kernel_rfl)) _ _ rfl Ha HJ (fun _ _ h=>StF.keeps h KM.o.1 k2 cN) ⟨s,rfl⟩,kQ⟩
  ·go_simp;exact hK' _ _ ⟨sv,er,T',N,hI.step (by kernel_rfl) 4 12 rfl (Nat.le_of_ble_eq_true (by kernel_rfl)) _ _ rfl Ha KM.o (fun _ _ h=>h) rfl,kQ⟩
  ·have e4:=gE (hI.fact 4 12 rfl (Qma Ha 4 (by kernel_rfl)):c.tmps.getD 12 undef=.pointer (some ⟨b,0,none⟩));go_simp;refine(Q9l B b wx KM.o.1).mono ?_;rintro e w2 ⟨s,rfl,hs,Kk,k2⟩;go_simp;have HJ:=StS.keeps KM.o qU cV k2 Kk;exact hK' _ _ ⟨sv,er,T',N,hI.step (by kernel_rfl) 5 13 rfl (Nat.le_of_ble_eq_true (by kernel_rfl)) _ _ rfl Ha HJ (fun _ _ h=>StF.keeps h KM.o.1 k2 cN) ⟨s,rfl,hs⟩,kQ⟩
  ·have e0:=gE (hI.fact 0 8 rfl (Qma Ha 0 (by kernel_rfl)):c.tmps.getD 8 undef=.agg #[.slice a T.length cap]);obtain⟨s,e3⟩:∃s,c.tmps.getD 11 undef=.string s:=hI.fact 3 11 rfl (Qma Ha 3 (by kernel_rfl));simp only[Array.getD_eq_getD_getElem?]at e3;obtain⟨nm,e5,Ht⟩:∃s,c.tmps.getD 13 undef=.string s∧s∈QFk:=hI.fact 5 13 rfl (Qma Ha 5 (by kernel_rfl));simp only[Array.getD_eq_getD_getElem?]at e5;have Ax:nm.size≤9223372036854775807:=by have:=QXr nm Ht;omega
   go_simp;refine(Qgn _ _ T s nm wx KM.o.2.1.in Ax).mono ?_;rintro e w2 ⟨v2,rfl,Gz,Hc⟩;go_simp;have k2:=Qaa.of_fresh Hc (fun i=>i=b);have HJ:=StS.keeps KM.o qU cV k2 (KM.o.1.new Hc);have bV:=Gz.base (Nat.le_trans gx KM.o.2.2.2.2.size);have kJ:Qte T (QQc T s nm).1 (QQc T s nm).2:=fun e=>⟨s,nm,e,rfl⟩;have u7:=hI.2.2.1.2.unlisted hl (j:=7) (by kernel_rfl);have u8:=hI.2.2.1.2.unlisted u7 (j:=8) (by kernel_rfl);have u9:=hI.2.2.1.2.unlisted u7 (j:=9) (by kernel_rfl);have u11:=hI.2.2.1.2.unlisted u8 (j:=11) (by kernel_rfl);have u12:=hI.2.2.1.2.unlisted u9 (j:=12) (by kernel_rfl);have hJ:=hI.other (F':=StF b base (.slice a T.length cap) T v2 (QQc T s nm).2 (QQc T s nm).1 N) (fun j hj u hF=>hF.ghost (by
    have q1:j<13:=hI.lt hj;have q2:=Q1a hj hl;have q3:=Q1a hj u7;have q4:=Q1a hj u8;have q5:=Q1a hj u9;have q6:=Q1a hj u11;have q7:=Q1a hj u12;omega))
   exact hK' _ _ ⟨v2,(QQc T s nm).2,(QQc T s nm).1,N,hJ.step (by kernel_rfl) 6 14 rfl (Nat.le_of_ble_eq_true (by kernel_rfl)) _ _ rfl Ha HJ (fun _ _ h=>StF.keeps h KM.o.1 k2 cN) ⟨rfl,bV,kJ⟩,kQ⟩
  ·obtain⟨e6,AD,bX⟩:c.tmps.getD 14 undef=.tuple #[.agg #[sv],.int .i64 er]∧Qda wx base sv T'∧Qte T T' er:=hI.fact 6 14 rfl (Qma Ha 6 (by kernel_rfl));simp only[Array.getD_eq_getD_getElem?]at e6;go_simp;exact hK' _ _ ⟨sv,er,T',N,hI.step (by kernel_rfl) 7 7 rfl (Nat.le_of_ble_eq_true (by kernel_rfl)) _ _ rfl Ha KM.o (fun _ _ h=>h) ⟨rfl,AD,bX⟩,kQ⟩
  ·obtain⟨e7,lK,mn⟩:c.tmps.getD 7 undef=.tuple #[.agg #[sv],.int .i64 er]∧Qda wx base sv T'∧Qte T T' er:=hI.fact 7 7 rfl (Qma Ha 7 (by kernel_rfl));simp only[Array.getD_eq_getD_getElem?]at e7;go_simp;exact hK' _ _ ⟨sv,er,T',N,hI.step (by kernel_rfl) 8 15 rfl (Nat.le_of_ble_eq_true (by kernel_rfl)) _ _ rfl Ha KM.o (fun _ _ h=>h) rfl,kQ⟩
  ·obtain⟨e7,lK,mn⟩:c.tmps.getD 7 undef=.tuple #[.agg #[sv],.int .i64 er]∧Qda wx base sv T'∧Qte T T' er:=hI.fact 7 7 rfl (Qma Ha 7 (by kernel_rfl));simp only[Array.getD_eq_getD_getElem?]at e7;go_simp;exact hK' _ _ ⟨sv,er,T',N,hI.step (by kernel_rfl) 9 16 rfl (Nat.le_of_ble_eq_true (by kernel_rfl)) _ _ rfl Ha KM.o (fun _ _ h=>h) rfl,kQ⟩
  ·go_simp;have Hc:Below wx.heap.size wx (wx.alloc (.cells #[.slice none 0 0] 27)):=Bq;have k2:=Qaa.of_fresh Hc (fun i=>i=b);have HJ:=StS.keeps KM.o qU cV k2 (KM.o.1.new Hc);have u11:=hI.2.2.1.2.unlisted hl (j:=11) (by kernel_rfl);have JB:wx.heap.size≠b:=by have:=KM.o.1.lt;omega
   have li:w.heap.size+2≤wx.heap.size:=KM.o.2.2.2.1.lt;have hJ:=hI.other (F':=StF b base (.slice a T.length cap) T sv er T' wx.heap.size) (fun j hj u hF=>hF.ghostN (hI.lt hj) (Q1a hj hl) (Q1a hj u11));exact hK' _ _ ⟨sv,er,T',wx.heap.size,hJ.step (by kernel_rfl) 10 5 rfl (Nat.le_of_ble_eq_true (by kernel_rfl)) _ _ rfl Ha HJ (fun _ _ h=>StF.keeps h KM.o.1 k2 JB) ⟨rfl,JB,_,Holds.new _ _ _⟩,li⟩
  ·obtain⟨e10,_,x,mx⟩:c.tmps.getD 5 undef=.pointer (some ⟨N,0,none⟩)∧N≠b∧∃x,Holds wx N #[x] 27:=hI.fact 10 5 rfl (Qma Ha 10 (by kernel_rfl));simp only[Array.getD_eq_getD_getElem?]at e10;have e8:=gE (hI.fact 8 15 rfl (Qma Ha 8 (by kernel_rfl)):c.tmps.getD 15 undef=.agg #[sv]);obtain⟨e7,lK,mn⟩:c.tmps.getD 7 undef=.tuple #[.agg #[sv],.int .i64 er]∧Qda wx base sv T'∧Qte T T' er:=hI.fact 7 7 rfl (Qma Ha 7 (by kernel_rfl));obtain⟨a2,c2,rfl⟩:=lK.slice;have n0:wx.cell? ⟨N,0,none⟩=some x:=mx.cell 0;have n1:wx.frozen? ⟨N,0,none⟩=false:=mx.free 0;go_simp;exact hK' _ _ ⟨.slice a2 T'.length c2,er,T',N,hI.stepN 11 rfl _ rfl Ha (KM.o.store mx kQ rfl Hh fG) (fun _ _ h=>h.store mx) (mx.set 0 _),kQ⟩
  have e9:=gE (hI.fact 9 16 rfl (Qma Ha 9 (by kernel_rfl)):c.tmps.getD 16 undef=.int .i64 er);go_simp;exact hK' _ _ ⟨sv,er,T',N,hI.step (by kernel_rfl) 12 6 rfl (Nat.le_of_ble_eq_true (by kernel_rfl)) _ _ rfl Ha KM.o (fun _ _ h=>h) rfl,kQ⟩
 case hend=>
  rintro l c wx ⟨sv,er,T',N,hI,cN⟩ hl;obtain⟨e10,_,x,mx⟩:c.tmps.getD 5 undef=.pointer (some ⟨N,0,none⟩)∧N≠b∧∃x,Holds wx N #[x] 27:=hI.fact 10 5 rfl (hl 10 (by decide));have hH:Holds wx N #[sv] 27:=hI.2.2.2 11 (by decide) (hl 11 (by decide));obtain⟨e7,lK,mn⟩:c.tmps.getD 7 undef=.tuple #[.agg #[sv],.int .i64 er]∧Qda wx base sv T'∧Qte T T' er:=hI.fact 7 7 rfl (hl 7 (by decide));have e12:c.tmps.getD 6 undef=.int .i64 er:=hI.fact 12 6 rfl (hl 12 (by decide));have s0:=hI.slot 0 (by kernel_rfl);have s1:=hI.slot 1 (by kernel_rfl);have s3:=hI.slot 3 (by kernel_rfl);have s4:=hI.slot 4 (by kernel_rfl);have hsz:c.tmps.size=21:=hI.1.1;have uq:=hI.1.2.1;have hS:=hI.2.1;obtain⟨a2,c2,rfl⟩:=lK.slice;have hX:=hS.2.2.1.cell 0;have hZ:=hS.2.2.2.1.cell 0;have Kh:=hH.cell 0;obtain⟨ct,cd⟩:=c;have KO:ct=#[ct.getD 0 undef,ct.getD 1 undef,ct.getD 2 undef,ct.getD 3 undef,ct.getD 4 undef,ct.getD 5 undef,ct.getD 6 undef,ct.getD 7 undef,ct.getD 8 undef,ct.getD 9 undef,ct.getD 10 undef,ct.getD 11 undef,ct.getD 12 undef,ct.getD 13 undef,ct.getD 14 undef,ct.getD 15 undef,ct.getD 16 undef,ct.getD 17 undef,ct.getD 18 undef,ct.getD 19 undef,ct.getD 20 undef]:=QLn ct 21 hsz;simp only at s0 s1 s3 s4 e10 e12 uq;rw[s0,s1,s3,s4,e10,e12]at KO;clear e7 hsz s0 s1 s3 s4 e10 e12 hI;generalize ct.getD 2 undef=u2 at KO;generalize ct.getD 7 undef=u7 at KO;generalize ct.getD 8 undef=u8 at KO;generalize ct.getD 9 undef=u9 at KO;generalize ct.getD 10 undef=u10 at KO;generalize ct.getD 11 undef=u11 at KO;generalize ct.getD 12 undef=u12 at KO
  generalize ct.getD 13 undef=u13 at KO;generalize ct.getD 14 undef=u14 at KO;generalize ct.getD 15 undef=u15 at KO;generalize ct.getD 16 undef=u16 at KO;generalize ct.getD 17 undef=u17 at KO;generalize ct.getD 18 undef=u18 at KO;generalize ct.getD 19 undef=u19 at KO;generalize ct.getD 20 undef=u20 at KO;subst KO;have hZf:=hS.2.2.2.1.free 0;by_cases he:er=0
  ·have Hl:(er != 0)=false:=by simpa using he
   subst he;obtain⟨f1,f2,f3,f4⟩:=hS.fin rfl Hh fG (.slice a2 T'.length c2);go_simp;go_wp2_with fail;have q0:=f3.cell 0;exact bodyPost_ret (v:=.agg #[.slice a2 T'.length c2]) (by simp[results,Tryz.results28,go_sem,q0]) rfl ⟨_,_,rfl,f4 _ _ lK,Or.inr mn,f1,f2⟩
  have Hl:(er != 0)=true:=by simpa using he
  obtain⟨f1,f2,f3,f4⟩:=hS.fin rfl Hh fG (.slice a T.length cap);have AF:=hS.2.1;go_simp;go_wp2_with fail;have q0:=f3.cell 0;exact bodyPost_ret (v:=.agg #[.slice a T.length cap]) (by simp[results,Tryz.results28,go_sem,q0]) rfl ⟨_,_,rfl,f4 _ _ AF,Or.inl rfl,f1,f2⟩
noncomputable def Qcf(n:Nat):Array Oper:=(QPa (Tryz.f8.body.getD .skip) n).getD #[]
theorem Q9u:Q0b .any (Qcf 9)=true:=by kernel_rfl
theorem QTf:QRb (Qcf 9)=true:=by kernel_rfl
theorem Qct:(Qcf 9).size=15:=by kernel_rfl
theorem QGk:∀s∈QLc,s.size≤100:=by decide
def QMf(T T':List Qba)(er:Int):Prop:=er=0→∃s nm va:ByteArray,nm.size≤100∧va.size≤100∧(Qid T s nm va).2=0∧T'=(Qid T s nm va).1
def GsS(B b base Z:Nat)(v:Value)(T:List Qba)(W w:World):Prop:=QFb B w b∧Qda w base v T∧Holds w Z #[v] 27∧Qaa (· = b) W w
def GsF(b base:Nat)(v:Value)(T:List Qba)(sv:Value)(er:Int)(T':List Qba)(N:Nat)(j:Nat):Value→World→Prop:=match j with
 | 0=>fun u _=>u=.agg #[v]
 | 1=>fun u _=>u=.pointer (some ⟨b,0,none⟩)
 | 2=>fun u _=>u=.agg #[v]
 | 3=>fun u _=>∃s,u=.string s
 | 4=>fun u _=>u=.pointer (some ⟨b,0,none⟩)
 | 5=>fun u _=>∃s:ByteArray,u=.string s∧s.size≤100
 | 6=>fun u _=>u=.pointer (some ⟨b,0,none⟩)
 | 7=>fun u _=>∃s:ByteArray,u=.string s∧s.size≤100
 | 8=>fun u w=>u=.tuple #[.agg #[sv],.int .i64 er]∧Qda w base sv T'∧QMf T T' er
 | 9=>fun u w=>u=.tuple #[.agg #[sv],.int .i64 er]∧Qda w base sv T'∧QMf T T' er
 | 10=>fun u _=>u=.agg #[sv]
 | 11=>fun u _=>u=.int .i64 er
 | 12=>fun u w=>u=.pointer (some ⟨N,0,none⟩)∧∃x,Holds w N #[x] 27
 | 13=>fun _ w=>Holds w N #[sv] 27
 | 14=>fun u _=>u=.int .i64 er
 | _=>fun _ _=>True
section
variable{B b base Z:Nat}{v sv:Value}{T T':List Qba}{er:Int}{N:Nat}{W w w':World}
theorem GsS.call(h:GsS B b base Z v T W w)(hZb:Z≠b)(k:Qaa (· = b) w w')(ht:QFb B w' b):GsS B b base Z v T W w':=
 ⟨ht,h.2.1.tape h.1 k,h.2.2.1.keeps k hZb,h.2.2.2.trans k (fun _ _ e=>e)⟩
theorem GsS.store{x:Value}(h:GsS B b base Z v T W w)(hH:Holds w N #[x] 27)(h1:W.heap.size≤N)(hZ:Z<W.heap.size)(hb:b<W.heap.size)(hB:B≤W.heap.size):GsS B b base Z v T W (w.setCell ⟨N,0,none⟩ sv):=by
 have k:Qaa (· = N) w (w.setCell ⟨N,0,none⟩ sv):=(Qaa.refl (· = N) w).setCell (p:=⟨N,0,none⟩) (Or.inr rfl) sv;exact⟨h.1.keeps k (fun i e=>by subst e;omega),h.2.1.set hH (by decide) (by decide) 0 sv,h.2.2.1.keeps k (by omega),h.2.2.2.trans k (fun i hi e=>by omega)⟩
theorem GsF.keeps{j:Nat}{u:Value}(h:GsF b base v T sv er T' N j u w)(hT:QFb B w b)(k:Qaa (· = b) w w')(hN:N≠b):GsF b base v T sv er T' N j u w':=by
 unfold GsF at *
 split at h
 all_goals first
  | exact h
  | exact⟨h.1,h.2.1.tape hT k,h.2.2⟩
  | (obtain⟨e,x,hH⟩:=h;exact⟨e,x,hH.keeps k hN⟩)
  | exact Holds.keeps h k hN
theorem GsF.store{j:Nat}{u x:Value}(h:GsF b base v T sv er T' N j u w)(hH:Holds w N #[x] 27):GsF b base v T sv er T' N j u (w.setCell ⟨N,0,none⟩ sv):=by
 unfold GsF at *
 split at h
 all_goals first
  | exact h
  | exact⟨h.1,h.2.1.set hH (by decide) (by decide) 0 sv,h.2.2⟩
  | exact⟨h.1,_,hH.set 0 sv⟩
  | exact hH.set 0 sv
theorem GsF.ghost{j:Nat}{u:Value}{sv2:Value}{er2:Int}{T2:List Qba}(h:GsF b base v T sv er T' N j u w)(h8:j≠8)(h9:j≠9)(gR:j≠10)(i2:j≠11)(M3:j≠13)(qA:j≠14):GsF b base v T sv2 er2 T2 N j u w:=by
 unfold GsF at *
 split at h
 all_goals first
  | exact h
  | exact absurd rfl h8
  | exact absurd rfl h9
  | exact absurd rfl gR
  | exact absurd rfl i2
  | exact absurd rfl M3
  | exact absurd rfl qA
theorem GsF.ghostN{j:Nat}{u:Value}{N2:Nat}(h:GsF b base v T sv er T' N j u w)(MC:j≠12)(M3:j≠13):GsF b base v T sv er T' N2 j u w:=by
 unfold GsF at *
 split at h
 all_goals first
  | exact h
  | exact absurd rfl MC
  | exact absurd rfl M3
end
theorem QVl{Q:Exit→Act→World→Prop}(B b base Z:Nat)(v:Value)(T:List Qba)(W w:World)(A:Act)(hsz:A.tmps.size=49)(hZW:Z<W.heap.size)(qZ:b<W.heap.size)(hBW:B≤W.heap.size)(gx:base≤W.heap.size)(hZb:Z≠b)(h1:0<T.length)(h2:T.length≤1000)
 (a0:A.tmps.getD 0 undef=.pointer (some ⟨b,0,none⟩)) (a5:A.tmps.getD 5 undef=.pointer (some ⟨Z,0,none⟩)) (hS:GsS B b base Z v T W w)
 (hQ:∀c w' sv er T' N,Qpb (Qcf 9) A c→GsS B b base Z v T W w'→c.tmps.getD 8 undef=.pointer (some ⟨N,0,none⟩)→Holds w' N #[sv] 27→c.tmps.getD 9 undef=.int .i64 er→Qda w' base sv T'→QMf T T' er→W.heap.size≤N→Q .normal c w') :
 wpAny prog .any (Qcf 9) Q (Qcf 9).size (Array.replicate (Qcf 9).size false) A w:=by
 refine QNa (fun l c wx=>∃sv er T' N,QCd (Qcf 9) A (GsF b base v T sv er T' N) (GsS B b base Z v T W) l c wx∧W.heap.size≤N) Q9u ?hend ?Hk _ _ _ _ (by simp) (by simp) ⟨.slice none 0 0,0,[],W.heap.size,QCd.start hS,Nat.le_refl _⟩
 case hend=>
  rintro l c wx ⟨sv,er,T',N,hI,kQ⟩ hl;have hh:∀k,k<15→l.getD k false=true:=fun k hk=>hl k (by rw[Qct];exact hk);obtain⟨e9,pU,iE⟩:c.tmps.getD 33 undef=.tuple #[.agg #[sv],.int .i64 er]∧Qda wx base sv T'∧QMf T T' er:=hI.fact 9 33 rfl (hh 9 (by decide));have e12:c.tmps.getD 8 undef=.pointer (some ⟨N,0,none⟩)∧∃x,Holds wx N #[x] 27:=hI.fact 12 8 rfl (hh 12 (by decide));have M3:Holds wx N #[sv] 27:=hI.2.2.2 13 (by rw[Qct];decide) (hh 13 (by decide));have e14:c.tmps.getD 9 undef=.int .i64 er:=hI.fact 14 9 rfl (hh 14 (by decide));exact hQ c wx sv er T' N hI.1 hI.2.1 e12.1 M3 e14 pU iE kQ
 intro l c wx hI i' op ho hl Ha K' hK';obtain⟨sv,er,T',N,hI,kQ⟩:=hI;have cN:N≠b:=by omega
 have Jl:i'<15:=by rw[←Qct];exact(Array.getElem?_eq_some_iff.1 ho).1
 simp only[Qcf,QPa,Tryz.f8,Option.getD_some,reduceIte,Nat.reduceEqDiff]at ho;have HS:=hid hI.2.1;have s0:=(hI.slot 0 (by kernel_rfl)).trans a0;have s5:=(hI.slot 5 (by kernel_rfl)).trans a5;simp only[Array.getD_eq_getD_getElem?]at s0 s5;have GB:i'=0∨i'=1∨i'=2∨i'=3∨i'=4∨i'=5∨i'=6∨i'=7∨i'=8∨i'=9∨i'=10∨i'=11∨i'=12∨i'=13∨i'=14:=by omega
 rcases GB with rfl|rfl|rfl|rfl|rfl|rfl|rfl|rfl|rfl|rfl|rfl|rfl|rfl|rfl|rfl
 all_goals cases ho
 ·have hX:=HS.o.2.2.1.cell 0;go_simp;exact hK' _ _ ⟨sv,er,T',N,hI.step QTf 0 34 rfl (by rw[hsz];decide) _ _ rfl Ha HS.o (fun _ _ h=>h) rfl,kQ⟩
 ·go_simp;exact hK' _ _ ⟨sv,er,T',N,hI.step QTf 1 35 rfl (by rw[hsz];decide) _ _ rfl Ha HS.o (fun _ _ h=>h) rfl,kQ⟩
 ·have hX:=HS.o.2.2.1.cell 0;go_simp;exact hK' _ _ ⟨sv,er,T',N,hI.step QTf 2 36 rfl (by rw[hsz];decide) _ _ rfl Ha HS.o (fun _ _ h=>h) rfl,kQ⟩
 ·have e1:=gE (hI.fact 1 35 rfl (Qma Ha 1 (by kernel_rfl)):c.tmps.getD 35 undef=.pointer (some ⟨b,0,none⟩));have e2:=gE (hI.fact 2 36 rfl (Qma Ha 2 (by kernel_rfl)):c.tmps.getD 36 undef=.agg #[v]);go_simp;refine(Qxk B b base _ T wx HS.o.1 HS.o.2.1 h1 h2).mono ?_;rintro e w2 ⟨s,rfl,Kk,k2⟩;go_simp;have HJ:=HS.o.call hZb k2 Kk;exact hK' _ _ ⟨sv,er,T',N,hI.step QTf 3 37 rfl (by rw[hsz];decide) _ _ rfl Ha HJ (fun _ _ h=>GsF.keeps h HS.o.1 k2 cN) ⟨s,rfl⟩,kQ⟩
 ·go_simp;exact hK' _ _ ⟨sv,er,T',N,hI.step QTf 4 38 rfl (by rw[hsz];decide) _ _ rfl Ha HS.o (fun _ _ h=>h) rfl,kQ⟩
 ·have e4:=gE (hI.fact 4 38 rfl (Qma Ha 4 (by kernel_rfl)):c.tmps.getD 38 undef=.pointer (some ⟨b,0,none⟩));go_simp;refine(Q6d B b wx HS.o.1).mono ?_;rintro e w2 ⟨s,rfl,hs,Kk,k2⟩;go_simp;have HJ:=HS.o.call hZb k2 Kk;exact hK' _ _ ⟨sv,er,T',N,hI.step QTf 5 39 rfl (by rw[hsz];decide) _ _ rfl Ha HJ (fun _ _ h=>GsF.keeps h HS.o.1 k2 cN) ⟨s,rfl,QGk s hs⟩,kQ⟩
 ·go_simp;exact hK' _ _ ⟨sv,er,T',N,hI.step QTf 6 40 rfl (by rw[hsz];decide) _ _ rfl Ha HS.o (fun _ _ h=>h) rfl,kQ⟩
 ·have e6:=gE (hI.fact 6 40 rfl (Qma Ha 6 (by kernel_rfl)):c.tmps.getD 40 undef=.pointer (some ⟨b,0,none⟩));go_simp;refine(QQi B b wx HS.o.1).mono ?_;rintro e w2 ⟨s,rfl,hs,Kk,k2⟩;go_simp;have HJ:=HS.o.call hZb k2 Kk;exact hK' _ _ ⟨sv,er,T',N,hI.step QTf 7 41 rfl (by rw[hsz];decide) _ _ rfl Ha HJ (fun _ _ h=>GsF.keeps h HS.o.1 k2 cN) ⟨s,rfl,hs⟩,kQ⟩
 ·have e0:=gE (hI.fact 0 34 rfl (Qma Ha 0 (by kernel_rfl)):c.tmps.getD 34 undef=.agg #[v]);obtain⟨s,e3⟩:∃s,c.tmps.getD 37 undef=.string s:=hI.fact 3 37 rfl (Qma Ha 3 (by kernel_rfl));simp only[Array.getD_eq_getD_getElem?]at e3;obtain⟨nm,e5,Ht⟩:∃s:ByteArray,c.tmps.getD 39 undef=.string s∧s.size≤100:=hI.fact 5 39 rfl (Qma Ha 5 (by kernel_rfl));simp only[Array.getD_eq_getD_getElem?]at e5;obtain⟨vl,e7,MU⟩:∃s:ByteArray,c.tmps.getD 41 undef=.string s∧s.size≤100:=hI.fact 7 41 rfl (Qma Ha 7 (by kernel_rfl));simp only[Array.getD_eq_getD_getElem?]at e7;go_simp;refine(Qhn _ _ T s nm vl wx HS.o.2.1.in (by omega) (by omega)).mono ?_;rintro e w2 ⟨v2,rfl,Gz,Hc⟩;go_simp;have k2:=Qaa.of_fresh Hc (fun i=>i=b);have HJ:=HS.o.call hZb k2 (HS.o.1.new Hc);have bV:=Gz.base (Nat.le_trans gx HS.o.2.2.2.size);have kJ:QMf T (Qid T s nm vl).1 (Qid T s nm vl).2:=fun e=>⟨s,nm,vl,Ht,MU,e,rfl⟩;have u9:=hI.2.2.1.2.unlisted hl (j:=9) (by kernel_rfl);have u10:=hI.2.2.1.2.unlisted u9 (j:=10) (by kernel_rfl);have u11:=hI.2.2.1.2.unlisted u9 (j:=11) (by kernel_rfl);have u13:=hI.2.2.1.2.unlisted u10 (j:=13) (by kernel_rfl);have u14:=hI.2.2.1.2.unlisted u11 (j:=14) (by kernel_rfl);have hJ:=hI.other (F':=GsF b base v T v2 (Qid T s nm vl).2 (Qid T s nm vl).1 N) (fun j hj u hF=>hF.ghost (Q1a hj hl) (Q1a hj u9) (Q1a hj u10) (Q1a hj u11) (Q1a hj u13) (Q1a hj u14));exact hK' _ _ ⟨v2,(Qid T s nm vl).2,(Qid T s nm vl).1,N,hJ.step QTf 8 42 rfl (by rw[hsz];decide) _ _ rfl Ha HJ (fun _ _ h=>GsF.keeps h HS.o.1 k2 cN) ⟨rfl,bV,kJ⟩,kQ⟩
 ·obtain⟨e8,AE,lM⟩:c.tmps.getD 42 undef=.tuple #[.agg #[sv],.int .i64 er]∧Qda wx base sv T'∧QMf T T' er:=hI.fact 8 42 rfl (Qma Ha 8 (by kernel_rfl));simp only[Array.getD_eq_getD_getElem?]at e8;go_simp;exact hK' _ _ ⟨sv,er,T',N,hI.step QTf 9 33 rfl (by rw[hsz];decide) _ _ rfl Ha HS.o (fun _ _ h=>h) ⟨rfl,AE,lM⟩,kQ⟩
 ·obtain⟨e9,pU,iE⟩:c.tmps.getD 33 undef=.tuple #[.agg #[sv],.int .i64 er]∧Qda wx base sv T'∧QMf T T' er:=hI.fact 9 33 rfl (Qma Ha 9 (by kernel_rfl));simp only[Array.getD_eq_getD_getElem?]at e9;go_simp;exact hK' _ _ ⟨sv,er,T',N,hI.step QTf 10 43 rfl (by rw[hsz];decide) _ _ rfl Ha HS.o (fun _ _ h=>h) rfl,kQ⟩
 ·obtain⟨e9,pU,iE⟩:c.tmps.getD 33 undef=.tuple #[.agg #[sv],.int .i64 er]∧Qda wx base sv T'∧QMf T T' er:=hI.fact 9 33 rfl (Qma Ha 9 (by kernel_rfl));simp only[Array.getD_eq_getD_getElem?]at e9;go_simp;exact hK' _ _ ⟨sv,er,T',N,hI.step QTf 11 44 rfl (by rw[hsz];decide) _ _ rfl Ha HS.o (fun _ _ h=>h) rfl,kQ⟩
 ·go_simp;have Hc:Below wx.heap.size wx (wx.alloc (.cells #[.slice none 0 0] 27)):=Bq;have k2:=Qaa.of_fresh Hc (fun i=>i=b);have HJ:=HS.o.call hZb k2 (HS.o.1.new Hc);have u13:=hI.2.2.1.2.unlisted hl (j:=13) (by kernel_rfl);have JB:wx.heap.size≠b:=by have:=HS.o.1.lt;omega
  have li:W.heap.size≤wx.heap.size:=HS.o.2.2.2.size;have hJ:=hI.other (F':=GsF b base v T sv er T' wx.heap.size) (fun j hj u hF=>hF.ghostN (Q1a hj hl) (Q1a hj u13));exact hK' _ _ ⟨sv,er,T',wx.heap.size,hJ.step QTf 12 8 rfl (by rw[hsz];decide) _ _ rfl Ha HJ (fun _ _ h=>GsF.keeps h HS.o.1 k2 JB) ⟨rfl,_,Holds.new _ _ _⟩,li⟩
 ·obtain⟨e12,x,mx⟩:c.tmps.getD 8 undef=.pointer (some ⟨N,0,none⟩)∧∃x,Holds wx N #[x] 27:=hI.fact 12 8 rfl (Qma Ha 12 (by kernel_rfl));simp only[Array.getD_eq_getD_getElem?]at e12;have e10:=gE (hI.fact 10 43 rfl (Qma Ha 10 (by kernel_rfl)):c.tmps.getD 43 undef=.agg #[sv]);have u0:=mx.cell 0;have u1:=mx.free 0;obtain⟨e9,pU,iE⟩:c.tmps.getD 33 undef=.tuple #[.agg #[sv],.int .i64 er]∧Qda wx base sv T'∧QMf T T' er:=hI.fact 9 33 rfl (by
   have p10:=Qma Ha 10 (by kernel_rfl);cases p9:l.getD 9 false with
   | true=>rfl
   | false=>rw[hI.2.2.1.2.unlisted p9 (j:=10) (by kernel_rfl)]at p10;cases p10)
  obtain⟨a2,c2,rfl⟩:=pU.slice;have n0:wx.cell? ⟨N,0,none⟩=some x:=u0;have n1:wx.frozen? ⟨N,0,none⟩=false:=u1;go_simp;exact hK' _ _ ⟨.slice a2 T'.length c2,er,T',N,hI.stepN 13 rfl _ rfl Ha (HS.o.store mx kQ hZW qZ hBW) (fun _ _ h=>h.store mx) (mx.set 0 _),kQ⟩
 have e11:=gE (hI.fact 11 44 rfl (Qma Ha 11 (by kernel_rfl)):c.tmps.getD 44 undef=.int .i64 er);go_simp;exact hK' _ _ ⟨sv,er,T',N,hI.step QTf 14 9 rfl (by rw[hsz];decide) _ _ rfl Ha HS.o (fun _ _ h=>h) rfl,kQ⟩
def Qjr(B b base Z:Nat)(m:Int)(P:List Qba→Prop)(W w:World):Prop:=∃v T,QFb B w b∧Holds w Z #[v] 27∧Qda w base v T∧Qia T=0∧(T.length:Int)≤m∧P T∧Qaa (fun i=>i=b∨i=Z) W w
theorem QOn(B b:Nat)(n:Int)(w:World)(h:QFb B w b)(hn:0≤n)(mg:n≤30) :
 Calls prog 8 #[.pointer (some ⟨b,0,none⟩),.int .i64 n] w fun e w'=>∃v T,e=.returned (.agg #[v])∧Qda w' w.heap.size v T∧Qia T=0∧(T.length:Int)≤n+1∧(QOd T:Int)≤440*n∧QFb B w' b∧Qaa (· = b) w w':=by
 have Hh:=h.lt;have fG:B≤w.heap.size:=Nat.le_trans h.1 (Nat.le_of_lt Hh);have He:Below w.heap.size w (w.alloc (.cells #[.slice none 0 0] 27)):=Bq;have eQ:=Qjs (w.alloc (.cells #[.slice none 0 0] 27)) w.heap.size (w.heap.size+1) (by simp) (by omega);have M4:=(Holds.new w #[.slice none 0 0] 27).alloc (.cells #[.int .i64 (-1),.string ⟨#[]⟩,.slice none 0 0] 46);have bu:IntKind.i64.wrap (n+1)=n+1:=IntWalk.i64_in _ (by omega);go_enter func8,ntmps8;go_wp2_with fail;have fW:=Holds.newAt (w:=(w.alloc (.cells #[.slice none 0 0] 27)).alloc (.cells #[.int .i64 (-1),.string ⟨#[]⟩,.slice none 0 0] 46)) (B:=w.heap.size+1+1) (by simp) #[.slice (some ⟨w.heap.size+1,0,none⟩) 1 1] 27;have Hb:Below w.heap.size w (((w.alloc (.cells #[.slice none 0 0] 27)).alloc (.cells #[.int .i64 (-1),.string ⟨#[]⟩,.slice none 0 0] 46)).alloc (.cells #[.slice (some ⟨w.heap.size+1,0,none⟩) 1 1] 27)):=(He.alloc (by simp) _).alloc (by simp;omega) _;refine(QUg B b (n+1) _ (by exact h.new Hb) (by omega) (by omega)).mono ?_;rintro e w1 ⟨r,rfl,gi,Gz,bY,k1⟩;have Hm:=fW.keeps k1 (by omega);have Je:=((eQ.new (by exact Bq)).tape (by exact h.new Hb) k1);have Gh:=(Qaa.of_fresh Hb (fun i=>i=b)).trans k1 (fun _ _ e=>e);have aq:w.heap.size+1+1≠b:=by omega
 have hszw:w.heap.size+1+1<w1.heap.size:=Hm.lt;have ku:Qjr B b w.heap.size (w.heap.size+1+1) 1 Qcr w1 w1:=⟨_,_,bY,Hm,(by simpa using Je),Qwo,by simp[Qvo],(fun n hn=>by rw[show n=⟨-1,⟨#[]⟩,[]⟩from by simpa[Qvo]using hn]),Qaa.refl _ _⟩;have xQ:B≤w.heap.size+1+1:=by omega
 have Hy:w.heap.size≤w1.heap.size:=by omega
 clear Hm Je bY fW eQ He Hb;generalize hZdef:w.heap.size+1+1=Z at *
 generalize hRdef:w.heap.size=base at *
 go_upto_block 0 with fail;go_cut [] (fun wx=>Qjr B b base Z (n+1) Qcr w1 wx)
 case first=>
  go_wp2_with fail;go_loopg [6] (r.toNat) (fun f x wr=>∃(q m:Int),x=.int .i64 q∧0≤q∧q.toNat≤f∧m+q=r+1∧Qjr B b base Z m Qcr w1 wr)
  case atStart=>exact⟨r,1,rfl,gi,by omega,by omega,ku⟩
  case round=>
   obtain⟨q,m,rfl,lJ,AA,hqm,v,T,hT,hZ,hr,hs,hl,hP,hk⟩:=hrel;by_cases hq:0<q
   ·have hX:=hZ.cell 0;have qV:=hZ.free 0;have Gn:=(Qlb (QQa hs)).1;have G9:base≤wr.heap.size:=Nat.le_trans Hy hk.size;have gS:T.length≤1000:=by omega
    go_wp2_with fail;refine(QDp B b base v T _ hT hr Gn gS G9).mono ?_;rintro e w2 ⟨v2,T2,rfl,Gz,kJ,g8,kW⟩;obtain⟨a2,c2,rfl⟩:=Gz.slice;have Hx:=hZ.keeps kW aq;have y0:=Hx.cell 0;have yf:=Hx.free 0;have KP:Qia T2=0∧(T2.length:Int)≤m+1∧Qcr T2:=by
     rcases kJ with rfl|h2
     ·exact⟨hs,by omega,hP⟩
     obtain⟨sq,nq,hq,eq⟩:=h2 rfl;obtain⟨h3,h4⟩:=Q9j hq;have h5:=Qrr hP hq;rw[←eq]at h3 h4 h5;exact⟨h3,by omega,h5⟩
    have k1:Qaa (· = Z) w2 (w2.setCell ⟨Z,0,none⟩ (.slice a2 T2.length c2)):=(Qaa.refl (· = Z) w2).setCell (p:=⟨Z,0,none⟩) (Or.inr rfl) _;have Hp:Qjr B b base Z (m+1) Qcr w1 (w2.setCell ⟨Z,0,none⟩ (.slice a2 T2.length c2)):=
     ⟨_,T2,g8.keeps k1 (fun i e=>by subst e;exact⟨xQ,aq⟩),Hx.set 0 _,Gz.set Hx (by decide) (by decide) 0 _,KP.1,KP.2.1,KP.2.2,(hk.trans (kW.mono (fun i _ e=>show i=b∨i=Z from Or.inl e)) (fun _ _ e=>e)).trans (k1.mono (fun i _ e=>show i=b∨i=Z from Or.inr e)) (fun _ _ e=>e)⟩
    have HF:=hid Hp;clear Hp KP kJ;go_wp2_with fail;go_roundg (q-1).toNat
    case measure=>omega
    case rel=>exact⟨q-1,m+1,rfl,by omega,by omega,by omega,HF.o⟩
   have lJ:q=0:=by omega
   subst lJ;have Hp:Qjr B b base Z (n+1) Qcr w1 wr:=⟨v,T,hT,hZ,hr,hs,by omega,hP,hk⟩;have HF:=hid Hp;clear Hp;go_wp2_with fail;go_meet
   case rel=>exact HF.o
 case rest=>
  obtain⟨v,T,hT,hZ,hr,hs,hl,hP,hk⟩:=hcut;have hX:=hZ.cell 0;have qV:=hZ.free 0;have bw:IntKind.i64.wrap (2*n)=2*n:=IntWalk.i64_in _ (by omega);have dI:IntKind.i64.wrap (2*n+1)=2*n+1:=IntWalk.i64_in _ (by omega);go_wp2_with fail;refine(QUg B b (2*n+1) _ (by exact hT) (by omega) (by omega)).mono ?_;rintro e w3 ⟨r2,rfl,vz,hr22,Mr,k3⟩;have GP:Qjr B b base Z (n+1) (fun T=>(QOd T:Int)+220*r2≤440*n) w1 w3:=⟨v,T,Mr,hZ.keeps k3 aq,hr.tape hT k3,hs,hl,by show(QOd T:Int)+_≤_;rw[Q4o hP];omega,hk.trans k3 (fun i _ e=>Or.inl e)⟩;clear hT hZ hr hs hl hP hk hX qV k3 Mr;go_wp2_with fail;go_loopg [7] (r2.toNat) (fun f x wr=>∃q:Int,x=.int .i64 q∧0≤q∧q.toNat≤f∧q≤r2∧Qjr B b base Z (n+1) (fun T=>(QOd T:Int)+220*q≤440*n) w1 wr)
  case atStart=>exact⟨r2,rfl,vz,by omega,by omega,GP⟩
  case round=>
   obtain⟨q,rfl,lJ,AA,rx,v,T,hT,hZ,hr,hs,hl,hP,hk⟩:=hrel;have hX:=hZ.cell 0;have qV:=hZ.free 0;by_cases hq:0<q
   ·have gS:T.length≤1000:=by omega
    have Gn:=(Qlb (QQa hs)).1;have G9:base≤wr.heap.size:=Nat.le_trans Hy hk.size;have vJ:=hT.lt;have dJ:=hZ.lt;have tz:B≤wr.heap.size:=by omega
    have HS:=hid hs;have HK:=hid hk;have jH:GsS B b base Z v T wr wr.drew:=⟨hT.keeps ((Qaa.refl (fun _=>False) _).drew) (fun _ e=>e.elim),hr,hZ,(Qaa.refl _ _).drew⟩;clear hT hr hs hk hX qV;go_wp2_with fail;refine wp_region_any (by kernel_rfl) ?_;refine QUa (ops':=Qcf 9) (by kernel_rfl) ?_;refine QVl B b base Z v T wr _ _ rfl dJ vJ tz G9 aq Gn gS rfl rfl (by exact jH) ?_;intro c w2 sv er T2 N gI HJ e8 hN e9 Gz kJ kQ;obtain⟨y8,y9,y33,y34,y35,y36,y37,y38,y39,y40,y41,y42,y43,y44,hc⟩:=gI.ex [8,9,33,34,35,36,37,38,39,40,41,42,43,44] (by kernel_rfl);subst hc;simp only[List.setIfInBounds_toArray,List.set_cons_zero,List.set_cons_succ]at e8 e9 ⊢;have e8':y8=.pointer (some ⟨N,0,none⟩):=e8;have e9':y9=.int .i64 er:=e9;subst e8';subst e9';obtain⟨sa,sc,rfl⟩:=Gz.slice;have cK:=HK.o.trans HJ.2.2.2 (fun i _ e=>show i=b∨i=Z from Or.inl e);by_cases he:er=0
    ·subst he;obtain⟨s,nm,va,Ht,rC,KI,g8⟩:=kJ rfl;have cY:=QEr KI;obtain⟨gh,pu⟩:=Qel KI;rw[←g8]at gh pu cY;have Hx:=HJ.2.2.1;have kz:Qaa (· = Z) w2 (w2.setCell ⟨Z,0,none⟩ (.slice sa T2.length sc)):=(Qaa.refl (· = Z) w2).setCell (p:=⟨Z,0,none⟩) (Or.inr rfl) _
     have HF:=hid (show Qjr B b base Z (n+1) (fun T=>(QOd T:Int)+220*(q-1)≤440*n) w1 (w2.setCell ⟨Z,0,none⟩ (.slice sa T2.length sc))from
      ⟨_,T2,HJ.1.keeps kz (fun i e=>by subst e;exact⟨xQ,aq⟩),Hx.set 0 _,Gz.set Hx (by decide) (by decide) 0 _,gh,by omega,by show(QOd T2:Int)+_≤_;omega,cK.trans kz (fun i _ e=>Or.inr e)⟩)
     have n0:=hN.cell 0;have z0:=Hx.cell 0;have z1:=Hx.free 0;clear HJ Hx Gz kJ gh g8 KI hN gI e8 e9 HS HK cK kz jH pu;go_wp2_with fail;go_roundg (q-1).toNat
     case measure=>omega
     case rel=>exact⟨q-1,rfl,by omega,by omega,by omega,HF.o⟩
    have he':(er==0)=false:=by simpa using he
    have HF:=hid (show Qjr B b base Z (n+1) (fun T=>(QOd T:Int)+220*(q-1)≤440*n) w1 w2 from⟨v,T,HJ.1,HJ.2.2.1,HJ.2.1,HS.o,hl,by show(QOd T:Int)+_≤_;omega,cK⟩);clear HJ Gz kJ hN gI e8 e9 HS HK cK jH he;go_wp2_with fail;go_roundg (q-1).toNat
    case measure=>omega
    case rel=>exact⟨q-1,rfl,by omega,by omega,by omega,HF.o⟩
   obtain⟨qa,qc,rfl⟩:=hr.slice;have hbZ:base≠Z:=by omega
   have mQ:base≠b:=by omega
   have Je:Holds w1 base #[.slice none 0 0] 27:=(M4.alloc (.cells #[.slice (some ⟨base+1,0,none⟩) 1 1] 27)).keeps k1 mQ;have hR:=Je.keeps hk (by omega);have hY:=hR.cell 0;have hYf:=hR.free 0;have kz:Qaa (· = base) wr (wr.setCell ⟨base,0,none⟩ (.slice qa T.length qc)):=(Qaa.refl (· = base) wr).setCell (p:=⟨base,0,none⟩) (Or.inr rfl) _;have q0:=(hR.set 0 (.slice qa T.length qc)).cell 0
   have HF:=hid (show Qda (wr.setCell ⟨base,0,none⟩ (.slice qa T.length qc)) base (.slice qa T.length qc) T∧Qia T=0∧(T.length:Int)≤n+1∧(QOd T:Int)≤440*n∧QFb B (wr.setCell ⟨base,0,none⟩ (.slice qa T.length qc)) b∧Qaa (· = b) w (wr.setCell ⟨base,0,none⟩ (.slice qa T.length qc))from
    ⟨hr.set hR (by decide) (by decide) 0 _,hs,hl,by omega,hT.keeps kz (fun i e=>by subst e;exact⟨fG,mQ⟩),
     Gh.trans ((hk.mono (fun i _ e=>(show i=b∨i=Z∨i=base from by omega))).trans kz (fun i _ e=>(show i=b∨i=Z∨i=base from by omega))) (fun i hi e=>by omega)⟩)
   clear hT hr hs hk hR Je hZ kz;go_wp2_with fail;exact bodyPost_ret (v:=.agg #[.slice qa T.length qc]) (by simp[results,Tryz.results8,go_sem,q0]) rfl ⟨_,rfl,_,HF.o⟩
theorem QEp(B b:Nat)(n:Int)(w:World)(h:QFb B w b)(hn:0≤n)(mg:n≤30) :
 Calls prog 8 #[.pointer (some ⟨b,0,none⟩),.int .i64 n] w fun e w'=>∃v T,e=.returned (.agg #[v])∧Qda w' w.heap.size v T∧Qia T=0∧(T.length:Int)≤n+1∧QFb B w' b∧Qaa (· = b) w w':=
 (QOn B b n w h hn mg).mono fun _ _ ⟨v,T,h1,h2,h3,h4,_,h5⟩=>⟨v,T,h1,h2,h3,h4,h5⟩
end Go.Proofs.YtgaboghigefgbaaGreatDoor
