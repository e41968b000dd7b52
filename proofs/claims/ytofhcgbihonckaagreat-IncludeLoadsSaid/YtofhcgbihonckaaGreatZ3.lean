/- The reader of package expression: what a row of the table answers; what happens once the form is wrong. | The reader of package expression, once the form is wrong: level, whole. | The reader of package expression: operand. | The reader of package expression: the signs' functions by their numbers. | The reader of package expression: level. | The reader of package expression: whole. | The reader of package expression: all its methods, by the tokens that are left. | Package expression: read. | Package expression: read. | Expressions in plain Lean: climbing by ranks is the same as reading level by level. | Package expression: Primary (printed by gprim.py). | Package expression: Value. -/
import Derived.Test.YtofhcgbihonckaaGreatZ2
import Derived.Deep.LoopGhost
import Derived.Laws.AppendOwn
import Derived.Laws.OwnMore
import Derived.BigRegion
set_option linter.all false
set_option maxHeartbeats 8000000
namespace Go.Proofs.YtofhcgbihonckaaGreat
open Go.Lib (hid)
open Go.RowKit
theorem Qop(k:Nat)(z:Value)(s:ByteArray):QQo (Qre (Qgc.getD k [])) z s=match Qlc k s with
 | none=>(z,false)
 | some f=>(fnT f,true):=by
 unfold QQo Qlc Qre
 rw[List.find?_map]
 have:((fun p:ByteArray × Value=>decide (p.1=s)) ∘ fun p:ByteArray × Nat=>(p.1,fnT p.2))=fun p:ByteArray × Nat=>decide (p.1=s):=rfl
 rw[this]
 cases (Qgc.getD k []).find? (fun p=>decide (p.1=s))with
 | none=>rfl
 | some p=>rfl
theorem QAl:∀k,k<10→((Qre (Qgc.getD k [])).map (·.1)).Nodup:=by
 intro k hk
 have:(Qre (Qgc.getD k [])).map (·.1)=(Qgc.getD k []).map (·.1):=by unfold Qre;rw[List.map_map];rfl
 rw[this]
 revert k
 decide
theorem Qaf:∀k,k<10→Qlc k ⟨#[]⟩=none:=by decide
section
variable{w:World}{r:Nat}{L:List (Int × ByteArray × Int)}{i d:Nat}{syn dp gr dv:Bool}
theorem QNa.look(h:QNa w r L i d syn dp gr dv)(k:Nat)(hk:k<10)(s:ByteArray)(hs:s.size≤maxLen) :
 ∃g m z,w.cell? ⟨r,1,none⟩=some (.slice (some ⟨g,0,none⟩) 10 10)∧w.cell? ⟨g,k,none⟩=some (.map (some m))∧
  (Instr.lookup 195 (.map (some m)) (.string s) true).run Tryz.prog w = .ok (.tuple #[(match Qlc k s with|none=>z|some f=>fnT f),.bool (Qlc k s).isSome]) w:=by
 obtain⟨lv,g,bs,h1,_,⟨t1,t2,t3⟩,_⟩:=h
 have kR:k<bs.length:=by omega
 obtain⟨z,hz⟩:=(t3 k kR).look (QAl k hk) s hs
 rw[Qop]at hz
 refine⟨g,bs[k],z,h1.cell 1,?_,?_⟩
 ·rw[t1.cell k];simp[kR]
 ·rw[hz]
  cases Qlc k s <;> rfl
theorem Q5k(h:QNa w r L i d syn dp gr dv)(j:Nat):(Qya L j).size≤maxLen:=by
 obtain⟨lv,g,bs,_,⟨a,c,_,gn,_⟩,_⟩:=h
 unfold Qya
 cases e:L[j]? with
 | none=>exact Nat.zero_le _
 | some t=>
  show ByteArray.size (if _ then _ else _)≤_
  split
  ·exact gn t (List.mem_of_getElem? e)
  ·exact Nat.zero_le _
end
set_option maxRecDepth 100000 in
theorem Qhk(r:Nat)(L:List (Int × ByteArray × Int))(d i:Nat)(dp gr dv:Bool)(w:World)(h:QNa w r L i d true dp gr dv) :
 Calls Tryz.prog 155 #[.pointer (some ⟨r,0,none⟩)] w (QRd r L d w):=by
 have Hk:=Qpb r L i d true dp gr dv w h
 unfold Qjb at Hk
 rw[if_pos rfl]at Hk
 go_enter Tryz.func155,Tryz.ntmps155
 go_wp2_with fail
 refine Hk.mono ?_
 rintro e w1 ⟨rfl,gi,Ht⟩
 obtain⟨c2,c3,c4,c5,c6,_,f2,f3,f4,f5,f6,_,rl,Hf,Ho,gm⟩:=gi.cells
 have GH:=hid gi
 clear gi
 go_wp2_with fail
 go_quiet (fail)
 go_wp2_with fail
 go_ret
 obtain⟨q1,m1⟩:=(GH.out.keeps (Qda _ _)).put 4 (.bool true) (i':=i) (d':=d) (syn':=true) (dp':=dp) (gr':=gr) (dv':=dv) Hf gm (fun _ _=>rfl)
 exact⟨0,i,dp,gr,dv,rfl,by omega,by omega,q1,((Q0a Ht).trans (Q0a (Qda _ _)) (fun _ _ e=>e)).trans m1 (fun _ _ e=>e)⟩
set_option maxRecDepth 100000 in
theorem Qgk(r:Nat)(L:List (Int × ByteArray × Int))(d i:Nat)(dp gr dv:Bool)(w:World)(h:QNa w r L i d true dp gr dv) :
 Calls Tryz.prog 186 #[.pointer (some ⟨r,0,none⟩)] w (QRd r L d w):=by
 have Hk:=Qpb r L i d true dp gr dv w h
 unfold Qjb at Hk
 rw[if_pos rfl]at Hk
 go_enter Tryz.func186,Tryz.ntmps186
 go_wp2_with fail
 refine Hk.mono ?_
 rintro e w1 ⟨rfl,gi,Ht⟩
 have GH:=hid gi
 clear gi
 go_wp2_with fail
 go_loopg [3,4] 0 (fun f x y wr=>x = .slice none 0 0∧y = .string ⟨#[]⟩∧w1=wr)
 case atStart=>exact⟨rfl,rfl,rfl⟩
 case round=>
  obtain⟨rfl,rfl,rfl⟩:=hrel
  go_wp2_with fail
  refine(Qhk r L d i dp gr dv w1 GH.out).mono ?_
  rintro e w2 ⟨v,j,p,g,q,rfl,Kq,kG,gT,Hp⟩
  go_wp2_with fail
  go_loopg [5,6] 0 (fun f x y wr=>x = .int .u32 v∧y = .int .i64 (-1)∧w2=wr)
  case atStart=>exact⟨rfl,rfl,rfl⟩
  case round=>
   obtain⟨rfl,rfl,rfl⟩:=hrel
   go_wp2_with fail
   go_ret
   exact⟨v,j,p,g,q,rfl,Kq,kG,gT,(Q0a Ht).trans Hp (fun _ _ e=>e)⟩
set_option maxRecDepth 100000 in
theorem QFl(r:Nat)(L:List (Int × ByteArray × Int))(d i:Nat)(dp gr dv:Bool)(w:World)(h:QNa w r L i d true dp gr dv) :
 Calls Tryz.prog 183 #[.pointer (some ⟨r,0,none⟩),.int .i64 (-1)] w (QRd r L d w):=by
 have ho:=Qgk r L d i dp gr dv w h
 unfold QRd at ho
 go_enter Tryz.func183,Tryz.ntmps183
 go_wp2_with fail
 refine ho.mono ?_
 rintro e w2 ⟨v,j,p,g,q,rfl,Kq,kG,gT,Hp⟩
 go_wp2_with fail
 go_ret
 exact⟨v,j,p,g,q,rfl,Kq,kG,gT,Hp⟩
set_option maxRecDepth 100000 in
theorem Qmn(r:Nat)(L:List (Int × ByteArray × Int))(d:Nat):∀(k:Nat),k≤10→∀(i:Nat) (dp gr dv:Bool) (w:World),QNa w r L i d true dp gr dv→
 Calls Tryz.prog 183 #[.pointer (some ⟨r,0,none⟩),.int .i64 ((k:Int)-1)] w (QRd r L d w):=by
 intro k
 induction k with
 | zero=>intro _ i dp gr dv w h;exact QFl r L d i dp gr dv w h
 | succ k ih=>
  intro hk i dp gr dv w h
  have ho:=ih (by omega) i dp gr dv w h
  unfold QRd at ho
  rw[show(((k+1:Nat):Int)-1)=(k:Int)from by omega]
  have Ht:¬((k:Int)<0):=by omega
  have Hp:IntKind.i64.wrap ((k:Int)-1)=(k:Int)-1:=IntWalk.i64_in _ (by omega)
  have HK:=hid hk
  clear ih hk
  go_enter Tryz.func183,Tryz.ntmps183
  go_wp2_with fail
  refine ho.mono ?_
  rintro e w1 ⟨v,j,p,g,q,rfl,Kq,kG,gi,ja⟩
  go_wp2_with fail
  go_loopg [5] 0 (fun f x wr=>x = .int .u32 v∧w1=wr)
  case atStart=>exact⟨rfl,rfl⟩
  case round=>
   obtain⟨rfl,rfl⟩:=hrel
   have Hk:=Qpb r L j d true p g q w1 gi
   unfold Qjb at Hk
   rw[if_pos rfl]at Hk
   go_wp2_with fail
   refine Hk.mono ?_
   rintro e w2 ⟨rfl,gT,kX⟩
   obtain⟨gt,m,z,c1,cm,hl⟩:=gT.look k (by have:=HK.out;omega) ⟨#[]⟩ (Nat.zero_le _)
   rw[Qaf k (by have:=HK.out;omega)]at hl
   simp only[Option.isSome_none]at hl
   have my:(0:Int)≤(k:Int):=by omega
   have G9:(k:Int)<10:=by have:=HK.out;omega
   have Jm:((k:Int)).toNat=k:=by omega
   have jL:=hid gT
   have rl:=gT.cells.2.2.2.2.2.2.2.2.2.2.2.2.1
   clear gT
   go_wp2_with fail
   go_ret
   exact⟨v,j,p,g,q,rfl,Kq,kG,jL.out,ja.trans (Q0a kX) (fun _ _ e=>e)⟩
theorem QGl(r:Nat)(L:List (Int × ByteArray × Int))(d i:Nat)(dp gr dv:Bool)(w:World)(h:QNa w r L i d true dp gr dv) :
 Calls Tryz.prog 183 #[.pointer (some ⟨r,0,none⟩),.int .i64 9] w (QRd r L d w):=Qmn r L d 10 (Nat.le_refl _) i dp gr dv w h
set_option maxRecDepth 100000 in
theorem Qgj(r:Nat)(L:List (Int × ByteArray × Int))(d i:Nat)(dp gr dv:Bool)(w:World)(h:QNa w r L i d true dp gr dv) :
 Calls Tryz.prog 161 #[.pointer (some ⟨r,0,none⟩)] w (QRd r L d w):=by
 have ho:=QGl r L d i dp gr dv w h
 unfold QRd at ho
 obtain⟨gt,m,z,c1,cm,hl⟩:=h.look 0 (by omega) ⟨#[]⟩ (Nat.zero_le _)
 have rl:=h.cells.2.2.2.2.2.2.2.2.2.2.2.2.1
 clear h cm hl
 go_enter Tryz.func161,Tryz.ntmps161
 go_wp2_with fail
 refine ho.mono ?_
 rintro e w1 ⟨v,j,p,g,q,rfl,Kq,kG,gi,ja⟩
 have Hk:=Qpb r L j d true p g q w1 gi
 unfold Qjb at Hk
 rw[if_pos rfl]at Hk
 go_wp2_with fail
 refine Hk.mono ?_
 rintro e w2 ⟨rfl,gT,kX⟩
 go_wp2_with fail
 go_ret
 exact⟨v,j,p,g,q,rfl,Kq,kG,gT,ja.trans (Q0a kX) (fun _ _ e=>e)⟩
theorem Qrp:(Tryz.prog.info? 9).map (fun i=>(i.zero,i.size,i.bytes))=some (some (.string ⟨#[]⟩),1,16):=by kernel_rfl
theorem Qok(u:Int)(h0:0≤u)(h1:u≤4294967295):bits .xor .u32 IntKind.u32.max u=4294967295-u:=by
 show IntKind.u32.wrap ((((BitVec.ofInt 32 (4294967295:Int)) ^^^ (BitVec.ofInt 32 u)).toNat:Nat):Int)=_
 rw[show BitVec.ofInt 32 (4294967295:Int)=BitVec.allOnes 32 from by decide,BitVec.allOnes_xor,BitVec.toNat_not,BitVec.toNat_ofInt]
 have e:(u % ((2 ^ 32:Nat):Int)).toNat=u.toNat:=by rw[Int.emod_eq_of_lt h0 (by omega)]
 rw[e]
 have:IntKind.u32.wrap ((2 ^ 32-1-u.toNat:Nat):Int)=((2 ^ 32-1-u.toNat:Nat):Int) % 4294967296:=rfl
 rw[this];omega
theorem Qfj{w:World}{base:Nat}{e:TypeId}{size:Nat}{v:Value}{n:Nat}{xs:List Value}(h:w.ownsRow base e size v n xs):∃a c,v = .slice a n c:=by
 rcases h.2 with⟨e,h0⟩|⟨g,cap,cur,e,_⟩
 ·subst h0;exact⟨none,0,e⟩
 ·exact⟨_,_,e⟩
def QQj(S:List ByteArray)(v:Int):Int:=S.foldr unT v
theorem Qmi{s:ByteArray}(h:unB s=true):s=⟨#[45]⟩∨s=⟨#[126]⟩∨s=⟨#[33]⟩:=by
 unfold unB at h
 simp only[Bool.or_eq_true,decide_eq_true_eq]at h
 rcases h with(h|h) | h
 ·exact .inl h
 ·exact .inr (.inl h)
 ·exact .inr (.inr h)
theorem Qdr{s:ByteArray}(h:¬unB s=true):(s.toList == [45])=false∧(s.toList == [126])=false∧(s.toList == [33])=false:=by
 refine⟨?_,?_,?_⟩
 all_goals
  rw[beq_eq_false_iff_ne];intro e;apply h;rw[Qic e];decide
theorem Qnj(s:ByteArray)(v:Int)(h0:0≤v)(h1:v≤4294967295):0≤unT s v∧unT s v≤4294967295:=by
 unfold unT
 split
 ·omega
 ·split
  ·omega
  ·unfold QQc;split <;> omega
theorem Qud(S:List ByteArray)(v:Int)(h0:0≤v)(h1:v≤4294967295):0≤QQj S v∧QQj S v≤4294967295:=by
 induction S with
 | nil=>exact⟨h0,h1⟩
 | cons s t ih=>exact Qnj s _ ih.1 ih.2
theorem Q3n(S:List ByteArray)(v:Int)(m:Nat)(h:m<S.length):QQj (S.drop m) v=unT S[m] (QQj (S.drop (m+1)) v):=by
 rw[List.drop_eq_getElem_cons h];rfl
theorem Q4n(S:List ByteArray)(s:ByteArray)(v:Int):QQj (S++[s]) v=QQj S (unT s v):=by
 unfold QQj;rw[List.foldr_append];rfl
theorem QNa.of{w w':World}{r:Nat}{L:List (Int × ByteArray × Int)}{lv:Value}{g:Nat}{bs:List Nat}{i d:Nat}{syn dp gr dv:Bool}(h1:Qcg (fun x=>x≠r) w lv L)(h2:Qif w g bs)(h3:g≠r)(h4:∀b∈bs,b≠r)
 (hL:L.length≤1000000000) (k:Qaa (fun b=>b=r) w w') (hH:Qca w' r #[lv,.slice (some ⟨g,0,none⟩) 10 10,.int .i64 i,.int .i64 d,.bool syn,.bool dp,.bool gr,.bool dv] 190) (hi:i≤L.length) (hd:d≤i):QNa w' r L i d syn dp gr dv:=
 ⟨lv,g,bs,hH,h1.keeps k (fun _ hg e=>hg e),h2.keeps k h3 h4,h3,h4,hi,hL,hd⟩
theorem Qcq{L:List (Int × ByteArray × Int)}{d i:Nat}{r:Option (Int × Nat × Bool × Bool × Bool)}(hs:¬unB (Qya L i)=true)(h:Rd L .prim d i r):Rd L .opnd d i r:=Q9h (by simpa using hs) h
theorem Q0b.val{r:Nat}{L:List (Int × ByteArray × Int)}{W:Wh}{d i:Nat}{dp gr dv:Bool}{w w':World}{e:Ending}(h:Q0b r L W d i dp gr dv w e w'):∃v:Int,e = .returned (.int .u32 v)∧0≤v∧v≤4294967295∧Qaa (fun b=>b=r) w w':=by
 rcases h with⟨v,j,p,g,q,_,e,h0,h1,_,_,_,k⟩|⟨_,v,j,p,g,q,e,h0,h1,_,k⟩
 ·exact⟨v,e,h0,h1,k⟩
 ·exact⟨v,e,h0,h1,k⟩
theorem Q0b.ops{r:Nat}{L:List (Int × ByteArray × Int)}{d i j:Nat}{dp gr dv:Bool}{w w1 w2 w':World}{v:Int}{S:List ByteArray}(h:Q0b r L .prim d j dp gr dv w1 (.returned (.int .u32 v)) w2)
 (hb:∀res,Rd L .prim d j res→Rd L .opnd d i (res.map fun q=>(QQj S q.1,q.2))) (GV:i≤j) (k:Qaa (fun b=>b=r) w w1) (k2:Qaa (fun _=>False) w2 w'):Q0b r L .opnd d i dp gr dv w (.returned (.int .u32 (QQj S v))) w':=by
 rcases h with⟨u,m,p,g,q,hr,e,h0,h1,hj,hm,ha,kk⟩|⟨hr,u,m,p,g,q,e,h0,h1,ha,kk⟩
 ·obtain rfl:v=u:=by injection e with e;injection e
  exact .inl ⟨_,m,p,g,q,hb _ hr,rfl,(Qud S v h0 h1).1,(Qud S v h0 h1).2,by omega,hm,ha.keeps k2,(k.trans kk (fun _ _ e=>e)).trans (Q0a k2) (fun _ _ e=>e)⟩
 ·obtain rfl:v=u:=by injection e with e;injection e
  exact .inr ⟨hb _ hr,_,m,p,g,q,rfl,(Qud S v h0 h1).1,(Qud S v h0 h1).2,ha.keeps k2,(k.trans kk (fun _ _ e=>e)).trans (Q0a k2) (fun _ _ e=>e)⟩
set_option maxRecDepth 100000 in
theorem Qmg(r:Nat)(L:List (Int × ByteArray × Int))(d i0:Nat)(dp gr dv:Bool)(w:World)(h:QNa w r L i0 d false dp gr dv)
 (hP:∀j,i0≤j→∀w,QNa w r L j d false dp gr dv→Calls Tryz.prog 155 #[.pointer (some ⟨r,0,none⟩)] w (Q0b r L .prim d j dp gr dv w)) :
 Calls Tryz.prog 186 #[.pointer (some ⟨r,0,none⟩)] w (Q0b r L .opnd d i0 dp gr dv w):=by
 have Hk:=Qpb r L i0 d false dp gr dv w h
 unfold Qjb at Hk
 simp only[Bool.false_eq_true,if_false]at Hk
 have HP:=hid hP;clear hP
 obtain⟨lv,g,bs,hH,t1,t2,t3,t4,t5,t6,t7⟩:=h
 have uW:∀(w':World) (i:Nat),Qaa (fun b=>b=r) w w'→Qca w' r #[lv,.slice (some ⟨g,0,none⟩) 10 10,.int .i64 i,.int .i64 d,.bool false,.bool dp,.bool gr,.bool dv] 190→i≤L.length→d≤i→QNa w' r L i d false dp gr dv:=fun w' i k hh hi hd=>QNa.of t1 t2 t3 t4 t6 k hh hi hd
 have ck:=hid uW
 have am:=hH.lt
 clear t1 t2 t3 t4 uW
 go_enter Tryz.func186,Tryz.ntmps186
 go_wp2_with fail
 refine Hk.mono ?_
 rintro e w1 ⟨rfl,_,Ht⟩
 have ko:=hH.keeps Ht (fun e=>e)
 go_wp2_with fail
 go_loopg [3,4] (L.length-i0) (fun f x y wr=>∃(S:List ByteArray) (i:Nat),y = .string (Qya L i)∧wr.ownsRow w.heap.size 9 1 x S.length (S.map .string)∧Hid (∀s∈S,unB s=true)∧
  Hid (∀res,Rd L .opnd d i res→Rd L .opnd d i0 (res.map fun q=>(QQj S q.1,q.2)))∧Qca wr r #[lv,.slice (some ⟨g,0,none⟩) 10 10,.int .i64 i,.int .i64 d,.bool false,.bool dp,.bool gr,.bool dv] 190∧Qaa (fun b=>b=r) w wr∧Hid (S.length+i0=i)∧i≤L.length∧L.length≤i+f)
 case atStart=>exact⟨[],i0,rfl,World.ownsRow_nil _ _ _ _,hid (by simp),hid (fun res hr=>by cases res <;> exact hr),ko,Q0a Ht,hid (by simp),by omega,by omega⟩
 case round=>
  obtain⟨S,i,rfl,Hi,hU,hB,dO,dW,nR,G3,Kc⟩:=hrel
  have GM:=dW.size
  by_cases hu:unB (Qya L i)=true
  ·have mh:i+1≤L.length:=Qad (by intro e;rw[e]at hu;exact absurd hu (by decide))
   have km:∀res,Rd L .opnd d (i+1) res→Rd L .opnd d i0 (res.map fun q=>(QQj (S++[Qya L i]) q.1,q.2)):=by
    intro res hr
    have:=hB.out _ (Qdq hu hr)
    cases res with
    | none=>exact this
    | some q=>rw[Option.map_some,Q4n];exact this
   have vh:∀s∈S++[Qya L i],unB s=true:=by
    intro s hs
    rcases List.mem_append.1 hs with hs|hs
    ·exact hU.out s hs
    ·simp only[List.mem_singleton]at hs;rw[hs];exact hu
   have GI:=hid km
   have i5:=hid vh
   clear km vh hB hU
   have sG:=nR.out
   have KR:S.length≤1000000000:=by omega
   have sP:d≤i:=by omega
   clear sG
   have c2:=dO.cell 2
   have f2:=dO.free 2
   obtain⟨y0,hi,GE,GF,GA⟩:=info_parts Qrp
   obtain⟨ao,co,rfl⟩:∃a c,u3 = .slice a S.length c:=Qfj Hi
   rcases Qmi hu with hs|hs|hs
   ·rw[hs]at GI i5
    have HS:=hid hs
    rw[hs]
    clear hs hu
    go_wp2_with (at_builtin;refine wpList_append_own _ rfl _ _ 39 rfl w.heap.size 9 y0 (.string ⟨#[]⟩) 1 16 Tryz.underlying39 hi GE GF GA rfl (by decide) _ _ _ rfl (by exact World.ownsRow.alloc Hi _) ⟨wr.heap.size,0,none⟩ 1 1 [.string ⟨#[45]⟩] rfl rfl ?a1 ?a2 ?a3 ?a4 ?a5 ?_)
    case a1=>exact Q3a _ _ _ _ rfl _ rfl
    case a2=>intro u hu;simp at hu;rcases hu with rfl;rfl
    case a3=>unfold maxLen;omega
    case a4=>omega
    case a5=>simp;omega
    intro v' w3 Hq Hb _
    have Hd:Qaa (fun b=>b=r) w w3:=(dW.alloc _).grown Hb (fun g hg=>.inl (Hi.lt g hg).1)
    have kK:Qaa (fun b=>w.heap.size≤b) wr w3:=((Qaa.refl _ wr).alloc _).grown Hb (fun g hg=>.inr (Hi.lt g hg).1)
    have kN:=dO.keeps kK (by omega)
    have c3:=kN.cell 2
    have f3:=kN.free 2
    have l3:=kN.lt
    have mt:=kN.set 2 (.int .i64 ((i:Int)+1))
    have Hr:=Hd.setCell (p:=⟨r,2,none⟩) (.inr rfl) (.int .i64 ((i:Int)+1))
    have Me:=Qpb r L (i+1) d false dp gr dv _ (ck.out _ (i+1) Hr (by rw[show(((i+1:Nat)):Int)=(i:Int)+1 from by omega];exact mt) mh (by omega))
    unfold Qjb at Me
    simp only[Bool.false_eq_true,if_false]at Me
    have Gi:=ownsRow_setCell_below Hq (a:=⟨r,2,none⟩) am (.int .i64 ((i:Int)+1))
    have Gm:=hid Gi
    have lO:=hid mt
    have gQ:=hid Hr
    clear Hb Hq Gi mt Hr kN kK Hd
    go_wp2_with fail
    refine Me.mono ?_
    rintro e w5 ⟨rfl,_,Hs⟩
    go_wp2_with fail
    go_roundg (gk-1)
    case measure=>omega
    case rel=>
     refine⟨S++[⟨#[45]⟩],i+1,rfl,?_,i5,GI,?_,gQ.out.trans (Q0a Hs) (fun _ _ e=>e),hid ?_,mh,by omega⟩
     ·have:=Qba Gm.out Hs (fun _ _ e=>e)
      rw[List.length_append,List.map_append];exact this
     ·rw[show(((i+1:Nat)):Int)=(i:Int)+1 from by omega];exact lO.out.keeps Hs (fun e=>e)
     ·show _=_
      rw[List.length_append,←nR.out];simp;omega
   ·rw[hs]at GI i5
    have HS:=hid hs
    rw[hs]
    clear hs hu
    go_wp2_with (at_builtin;refine wpList_append_own _ rfl _ _ 39 rfl w.heap.size 9 y0 (.string ⟨#[]⟩) 1 16 Tryz.underlying39 hi GE GF GA rfl (by decide) _ _ _ rfl (by exact World.ownsRow.alloc Hi _) ⟨wr.heap.size,0,none⟩ 1 1 [.string ⟨#[126]⟩] rfl rfl ?b1 ?b2 ?b3 ?b4 ?b5 ?_)
    case b1=>exact Q3a _ _ _ _ rfl _ rfl
    case b2=>intro u hu;simp at hu;rcases hu with rfl;rfl
    case b3=>unfold maxLen;omega
    case b4=>omega
    case b5=>simp;omega
    intro v' w3 Hq Hb _
    have Hd:Qaa (fun b=>b=r) w w3:=(dW.alloc _).grown Hb (fun g hg=>.inl (Hi.lt g hg).1)
    have kK:Qaa (fun b=>w.heap.size≤b) wr w3:=((Qaa.refl _ wr).alloc _).grown Hb (fun g hg=>.inr (Hi.lt g hg).1)
    have kN:=dO.keeps kK (by omega)
    have c3:=kN.cell 2
    have f3:=kN.free 2
    have l3:=kN.lt
    have mt:=kN.set 2 (.int .i64 ((i:Int)+1))
    have Hr:=Hd.setCell (p:=⟨r,2,none⟩) (.inr rfl) (.int .i64 ((i:Int)+1))
    have Me:=Qpb r L (i+1) d false dp gr dv _ (ck.out _ (i+1) Hr (by rw[show(((i+1:Nat)):Int)=(i:Int)+1 from by omega];exact mt) mh (by omega))
    unfold Qjb at Me
    simp only[Bool.false_eq_true,if_false]at Me
    have Gi:=ownsRow_setCell_below Hq (a:=⟨r,2,none⟩) am (.int .i64 ((i:Int)+1))
    have Gm:=hid Gi
    have lO:=hid mt
    have gQ:=hid Hr
    clear Hb Hq Gi mt Hr kN kK Hd
    go_wp2_with fail
    refine Me.mono ?_
    rintro e w5 ⟨rfl,_,Hs⟩
    go_wp2_with fail
    go_roundg (gk-1)
    case measure=>omega
    case rel=>
     refine⟨S++[⟨#[126]⟩],i+1,rfl,?_,i5,GI,?_,gQ.out.trans (Q0a Hs) (fun _ _ e=>e),hid ?_,mh,by omega⟩
     ·have:=Qba Gm.out Hs (fun _ _ e=>e)
      rw[List.length_append,List.map_append];exact this
     ·rw[show(((i+1:Nat)):Int)=(i:Int)+1 from by omega];exact lO.out.keeps Hs (fun e=>e)
     ·show _=_
      rw[List.length_append,←nR.out];simp;omega
   ·rw[hs]at GI i5
    have HS:=hid hs
    rw[hs]
    clear hs hu
    go_wp2_with (at_builtin;refine wpList_append_own _ rfl _ _ 39 rfl w.heap.size 9 y0 (.string ⟨#[]⟩) 1 16 Tryz.underlying39 hi GE GF GA rfl (by decide) _ _ _ rfl (by exact World.ownsRow.alloc Hi _) ⟨wr.heap.size,0,none⟩ 1 1 [.string ⟨#[33]⟩] rfl rfl ?c1 ?c2 ?c3 ?c4 ?c5 ?_)
    case c1=>exact Q3a _ _ _ _ rfl _ rfl
    case c2=>intro u hu;simp at hu;rcases hu with rfl;rfl
    case c3=>unfold maxLen;omega
    case c4=>omega
    case c5=>simp;omega
    intro v' w3 Hq Hb _
    have Hd:Qaa (fun b=>b=r) w w3:=(dW.alloc _).grown Hb (fun g hg=>.inl (Hi.lt g hg).1)
    have kK:Qaa (fun b=>w.heap.size≤b) wr w3:=((Qaa.refl _ wr).alloc _).grown Hb (fun g hg=>.inr (Hi.lt g hg).1)
    have kN:=dO.keeps kK (by omega)
    have c3:=kN.cell 2
    have f3:=kN.free 2
    have l3:=kN.lt
    have mt:=kN.set 2 (.int .i64 ((i:Int)+1))
    have Hr:=Hd.setCell (p:=⟨r,2,none⟩) (.inr rfl) (.int .i64 ((i:Int)+1))
    have Me:=Qpb r L (i+1) d false dp gr dv _ (ck.out _ (i+1) Hr (by rw[show(((i+1:Nat)):Int)=(i:Int)+1 from by omega];exact mt) mh (by omega))
    unfold Qjb at Me
    simp only[Bool.false_eq_true,if_false]at Me
    have Gi:=ownsRow_setCell_below Hq (a:=⟨r,2,none⟩) am (.int .i64 ((i:Int)+1))
    have Gm:=hid Gi
    have lO:=hid mt
    have gQ:=hid Hr
    clear Hb Hq Gi mt Hr kN kK Hd
    go_wp2_with fail
    refine Me.mono ?_
    rintro e w5 ⟨rfl,_,Hs⟩
    go_wp2_with fail
    go_roundg (gk-1)
    case measure=>omega
    case rel=>
     refine⟨S++[⟨#[33]⟩],i+1,rfl,?_,i5,GI,?_,gQ.out.trans (Q0a Hs) (fun _ _ e=>e),hid ?_,mh,by omega⟩
     ·have:=Qba Gm.out Hs (fun _ _ e=>e)
      rw[List.length_append,List.map_append];exact this
     ·rw[show(((i+1:Nat)):Int)=(i:Int)+1 from by omega];exact lO.out.keeps Hs (fun e=>e)
     ·show _=_
      rw[List.length_append,←nR.out];simp;omega
  ·obtain⟨n1,n2,n3⟩:=Qdr hu
   have km:∀res,Rd L .prim d i res→Rd L .opnd d i0 (res.map fun q=>(QQj S q.1,q.2)):=fun res hr=>hB.out res (Qcq hu hr)
   have GI:=hid km
   have sG:=nR.out
   have vB:i0≤i:=by omega
   have KR:S.length≤1000000000:=by omega
   have JX:=HP.out i vB wr (ck.out wr i dW dO G3 (by omega))
   clear km hB sG hu
   generalize Qya L i=t at *
   obtain⟨ao2,co,rfl⟩:∃a c,u3 = .slice a S.length c:=Qfj Hi
   go_wp2_with fail
   refine JX.mono ?_
   rintro e w2 G4
   obtain⟨v,rfl,Kq,kG,Hp⟩:=G4.val
   have mM:=hid G4
   have Hc:=Qba Hi Hp (fun b hb e=>by have:=(Hi.lt b hb).1;omega)
   have hlI:IntKind.i64.wrap ((S.length:Int)-1)=(S.length:Int)-1:=IntWalk.i64_in _ (by omega)
   clear G4 Hi JX
   go_wp2_with fail
   obtain⟨wo,rfl⟩:∃x:World,x=wr:=⟨_,rfl⟩
   obtain⟨go,rfl⟩:∃x:Nat,x=gk:=⟨_,rfl⟩
   go_loopg [5,6] S.length (fun f x y wr=>∃m:Nat,m=f∧m≤S.length∧x = .int .u32 (QQj (S.drop m) v)∧y = .int .i64 ((m:Int)-1)∧w2=wr)
   case atStart=>exact⟨S.length,rfl,Nat.le_refl _,by rw[List.drop_of_length_le (Nat.le_refl _)];rfl,rfl,rfl⟩
   case round=>
    obtain⟨m,rfl,hm,rfl,rfl,rfl⟩:=hrel
    cases m with
    | zero=>
     rw[List.drop_zero]
     generalize hz:QQj S v=z
     go_wp2_with fail
     go_ret
     rw[←hz]
     exact mM.out.ops GI.out vB dW (Qaa.refl _ _)
    | succ m=>
     rw[show(((m+1:Nat):Int)-1)=(m:Int)from by omega]
     have hm':m<S.length:=by omega
     have vS:=Qud (S.drop (m+1)) v Kq kG
     have qK:=hU.out S[m] (List.getElem_mem hm')
     have ML:=Q3n S v m hm'
     obtain⟨gs,dD,iC⟩:∃gs:Nat,ao2=some ⟨gs,0,none⟩∧w2.cell? ⟨gs,m,none⟩=some (.string S[m]):=by
      rcases Hc.2 with⟨_,h0⟩|⟨gs,cap,cur,e,_⟩
      ·omega
      ·cases e
       refine⟨gs,rfl,?_⟩
       rw[Hc.cellAt m (by omega)];simp[hm']
     subst dD
     have cR:=hid ML
     have Gu:=hid Hc
     clear ML Hc
     generalize QQj (S.drop (m+1)) v=u at *
     have qH:(m:Int)<(S.length:Int):=by omega
     have dr:IntKind.i64.wrap ((m:Int)-1)=(m:Int)-1:=IntWalk.i64_in _ (by omega)
     rcases Qmi qK with hs|hs|hs
     ·rw[hs]at iC
      have HS:=hid hs
      clear hs qK
      go_wp2_with fail
      go_roundg m
      case measure=>omega
      case rel=>exact⟨m,rfl,by omega,by rw[cR.out,HS.out];rfl,rfl,rfl⟩
     ·rw[hs]at iC
      have HS:=hid hs
      clear hs qK
      go_wp2_with fail
      go_roundg m
      case measure=>omega
      case rel=>exact⟨m,rfl,by omega,by rw[cR.out,HS.out,Qok u vS.1 vS.2];rfl,rfl,rfl⟩
     ·rw[hs]at iC
      have HS:=hid hs
      clear hs qK
      go_wp2_with fail
      refine(QFd _ _).mono ?_
      rintro e w' ⟨rfl,rfl⟩
      go_wp2_with fail
      go_roundg m
      case measure=>omega
      case rel=>exact⟨m,rfl,by omega,by rw[cR.out,HS.out];rfl,rfl,rfl⟩
theorem QIo(x:Int):0≤IntKind.u32.wrap x∧IntKind.u32.wrap x≤4294967295:=by
 have:IntKind.u32.wrap x=x % 4294967296:=rfl
 rw[this];omega
theorem Qal(h:Bool):0≤QQc h∧QQc h≤4294967295:=by unfold QQc;split <;> omega
theorem QGa(f:Nat)(a b:Int)(ha:0≤a)(Hw:a≤4294967295)(hb:0≤b)(Hf:b≤4294967295):0≤Q4b f a b∧Q4b f a b≤4294967295:=by
 have hd:0≤a / b∧a / b≤4294967295:=by
  refine⟨Int.ediv_nonneg ha hb,?_⟩
  have:=Int.ediv_le_self b ha;omega
 have hm:0≤a % b∧a % b≤4294967295:=by
  by_cases h:b=0
  ·subst h;rw[Int.emod_zero];exact⟨ha,Hw⟩
  ·have h1:=Int.emod_nonneg a h
   have h2:=Int.emod_lt_of_pos a (show 0<b by omega)
   omega
 have hs:0≤a / 2 ^ min b.toNat 32∧a / 2 ^ min b.toNat 32≤4294967295:=by
  have h2:(0:Int)≤2 ^ min b.toNat 32:=Int.pow_nonneg (by omega)
  refine⟨Int.ediv_nonneg ha h2,?_⟩
  have:=Int.ediv_le_self (2 ^ min b.toNat 32) ha;omega
 unfold Q4b
 split
 any_goals exact Qal _
 any_goals exact QIo _
 any_goals assumption
 any_goals omega
theorem QAn(f:Nat)(h1:1≤f)(h2:f≤18):∃n,fnT f = .func (.func n) #[] #[]∧(∀(args:Array Value) (w:World),Sem.run Tryz.prog (callFunc n args) w = .ok (.enter n args) w)∧∀(a b:Int) (w:World),0≤a→a≤4294967295→0≤b→b≤4294967295→((f=2∨f=3)→1≤b)→
 Calls Tryz.prog n #[.int .u32 a,.int .u32 b] w (QAb f a b w):=by
 match f,h1,h2 with
 | 1,_,_=>exact⟨_,rfl,by intro args w;kernel_rfl,fun a b w ha Hw hb Hf _=>Qyq a b w ha Hw hb Hf⟩
 | 2,_,_=>exact⟨_,rfl,by intro args w;kernel_rfl,fun a b w ha Hw hb Hf h=>Qzq a b w ha Hw (h (by simp)) Hf⟩
 | 3,_,_=>exact⟨_,rfl,by intro args w;kernel_rfl,fun a b w ha Hw hb Hf h=>QAq a b w ha Hw (h (by simp)) Hf⟩
 | 4,_,_=>exact⟨_,rfl,by intro args w;kernel_rfl,fun a b w ha Hw hb Hf _=>QBq a b w ha Hw hb Hf⟩
 | 5,_,_=>exact⟨_,rfl,by intro args w;kernel_rfl,fun a b w ha Hw hb Hf _=>QCq a b w ha Hw hb Hf⟩
 | 6,_,_=>exact⟨_,rfl,by intro args w;kernel_rfl,fun a b w ha Hw hb Hf _=>QDq a b w ha Hw hb Hf⟩
 | 7,_,_=>exact⟨_,rfl,by intro args w;kernel_rfl,fun a b w ha Hw hb Hf _=>QEq a b w ha Hw hb Hf⟩
 | 8,_,_=>exact⟨_,rfl,by intro args w;kernel_rfl,fun a b w ha Hw hb Hf _=>QFq a b w ha Hw hb Hf⟩
 | 9,_,_=>exact⟨_,rfl,by intro args w;kernel_rfl,fun a b w ha Hw hb Hf _=>QGq a b w ha Hw hb Hf⟩
 | 10,_,_=>exact⟨_,rfl,by intro args w;kernel_rfl,fun a b w ha Hw hb Hf _=>Qfp a b w ha Hw hb Hf⟩
 | 11,_,_=>exact⟨_,rfl,by intro args w;kernel_rfl,fun a b w ha Hw hb Hf _=>Qgp a b w ha Hw hb Hf⟩
 | 12,_,_=>exact⟨_,rfl,by intro args w;kernel_rfl,fun a b w ha Hw hb Hf _=>Qhp a b w ha Hw hb Hf⟩
 | 13,_,_=>exact⟨_,rfl,by intro args w;kernel_rfl,fun a b w ha Hw hb Hf _=>Qip a b w ha Hw hb Hf⟩
 | 14,_,_=>exact⟨_,rfl,by intro args w;kernel_rfl,fun a b w ha Hw hb Hf _=>Qjp a b w ha Hw hb Hf⟩
 | 15,_,_=>exact⟨_,rfl,by intro args w;kernel_rfl,fun a b w ha Hw hb Hf _=>Qkp a b w ha Hw hb Hf⟩
 | 16,_,_=>exact⟨_,rfl,by intro args w;kernel_rfl,fun a b w ha Hw hb Hf _=>Qlp a b w ha Hw hb Hf⟩
 | 17,_,_=>exact⟨_,rfl,by intro args w;kernel_rfl,fun a b w ha Hw hb Hf _=>Qmp a b w ha Hw hb Hf⟩
 | 18,_,_=>exact⟨_,rfl,by intro args w;kernel_rfl,fun a b w ha Hw hb Hf _=>Qnp a b w ha Hw hb Hf⟩
 | _+19,_,h=>exact absurd h (by omega)
theorem Q7m:∀k,k<10→∀p∈Qgc.getD k [],1≤p.2∧p.2≤18∧(p.2=2↔p.1=⟨#[47]⟩)∧(p.2=3↔p.1=⟨#[37]⟩):=by decide
theorem Qyh{k:Nat}(hk:k<10){s:ByteArray}{f:Nat}(h:Qlc k s=some f):1≤f∧f≤18∧(f=2↔s=⟨#[47]⟩)∧(f=3↔s=⟨#[37]⟩):=by
 unfold Qlc at h
 obtain⟨p,hp,e⟩:=Option.map_eq_some_iff.1 h
 have h1:=List.mem_of_find?_eq_some hp
 have h2:=List.find?_some hp
 simp only[decide_eq_true_eq]at h2
 rw[←h2,←e]
 exact Q7m k hk p h1
theorem QGm(a b c:Bool × Bool × Bool):orF (orF a b) c=orF a (orF b c):=by simp[orF,Bool.or_assoc]
theorem Q0f{r:Nat}{L:List (Int × ByteArray × Int)}{k d i0 i f:Nat}{u v:Int}{dp gr dv p g q:Bool}{w2 w3 w4:World}(hi:i0<i)(Hc:Qlc k (Qya L i)=some f)
 (hB:∀res,Rd L (.loop k v) d i res→Rd L (.lvl (k+1)) d i0 (res.map fun y=>(y.1,y.2.1,orF (p,g,q) y.2.2)))
 (hw:∀(j:Nat) (syn dp gr dv:Bool),QNa w3 r L j d syn dp gr dv→QNa w4 r L j d syn dp gr (dv || Qib f u))
 (h:Q0b r L (.lvl k) d (i+1) (dp || p) (gr || g) (dv || q) w2 (.returned (.int .u32 u)) w3) :
 (∃(i':Nat) (p g q:Bool),i<i'∧i'≤L.length∧QNa w4 r L i' d false (dp || p) (gr || g) (dv || q)∧Hid (∀res,Rd L (.loop k (Q4b f v (if Qib f u=true then 1 else u))) d i' res→Rd L (.lvl (k+1)) d i0 (res.map fun y=>(y.1,y.2.1,orF (p,g,q) y.2.2))))∨
  (Hid (Rd L (.lvl (k+1)) d i0 none)∧∃(i:Nat) (p g q:Bool),QNa w4 r L i d true p g q):=by
 rcases h with⟨u',j,p2,g2,q2,gM,e,_,_,hj,hm,ha,_⟩|⟨gM,u',j,p2,g2,q2,e,_,_,ha,_⟩
 ·obtain rfl:u=u':=by injection e with e;injection e
  refine .inl ⟨j,p || p2,g || g2,q || q2 || Qib f u,by omega,hm,?_,hid ?_⟩
  ·have:=hw _ _ _ _ _ ha
   simpa[Bool.or_assoc]using this
  ·intro res hr
   have:=hB _ (Q8h Hc gM hr)
   cases res with
   | none=>exact this
   | some y=>
    simp only[Option.map_some]at this ⊢
    simpa[orF,Bool.or_assoc]using this
 ·obtain rfl:u=u':=by injection e with e;injection e
  exact .inr ⟨hid (hB _ (QNf Hc gM)),j,p2,g2,q2 || Qib f u,hw _ _ _ _ _ ha⟩
set_option maxRecDepth 100000 in
theorem QXg(r:Nat)(L:List (Int × ByteArray × Int))(d i0 k:Nat)(hk:k<10)(dp gr dv:Bool)(w:World)(h:QNa w r L i0 d false dp gr dv)
 (hL:∀j,i0≤j→∀(dp gr dv:Bool) (w:World),QNa w r L j d false dp gr dv→Calls Tryz.prog 183 #[.pointer (some ⟨r,0,none⟩),.int .i64 ((k:Int)-1)] w (Q0b r L (.lvl k) d j dp gr dv w)) :
 Calls Tryz.prog 183 #[.pointer (some ⟨r,0,none⟩),.int .i64 (k:Int)] w (Q0b r L (.lvl (k+1)) d i0 dp gr dv w):=by
 have ho:=hL i0 (Nat.le_refl _) dp gr dv w h
 have HL:=hid hL
 have Ht:¬((k:Int)<0):=by omega
 have Hp:IntKind.i64.wrap ((k:Int)-1)=(k:Int)-1:=IntWalk.i64_in _ (by omega)
 have my:(0:Int)≤(k:Int):=by omega
 have G9:(k:Int)<10:=by omega
 have Jm:((k:Int)).toNat=k:=by omega
 have HK:=hid hk
 clear hL hk h
 go_enter Tryz.func183,Tryz.ntmps183
 go_wp2_with fail
 refine ho.mono ?_
 rintro e w1 G4
 obtain⟨v0,rfl,Kq,kG,lq⟩:=G4.val
 have ML:(∃(v i:Int) ,v=0∧i=0):=⟨0,0,rfl,rfl⟩
 clear ML
 have mM:=hid G4
 clear G4
 go_wp2_with fail
 go_loopg [5] (L.length+1) (fun f x wr=>∃v:Int,x = .int .u32 v∧0≤v∧v≤4294967295∧Qaa (fun b=>b=r) w wr∧
  ((∃(i:Nat) (p g q:Bool),i0<i∧i≤L.length∧L.length+1≤i+f∧QNa wr r L i d false (dp || p) (gr || g) (dv || q)∧Hid (∀res,Rd L (.loop k v) d i res→Rd L (.lvl (k+1)) d i0 (res.map fun y=>(y.1,y.2.1,orF (p,g,q) y.2.2))))∨
   (Hid (Rd L (.lvl (k+1)) d i0 none)∧∃(i:Nat) (p g q:Bool),QNa wr r L i d true p g q)))
 case atStart=>
  refine⟨v0,rfl,Kq,kG,lq,?_⟩
  rcases mM.out with⟨v,j,p,g,q,gM,e,_,_,hj,hm,ha,_⟩|⟨gM,v,j,p,g,q,e,_,_,ha,_⟩
  ·obtain rfl:v0=v:=by injection e with e;injection e
   exact .inl ⟨j,p,g,q,hj,hm,by omega,ha,hid (fun res hr=>QVk gM hr)⟩
  ·exact .inr ⟨hid (QKe gM),j,p,g,q,ha⟩
 case round=>
  obtain⟨v,rfl,Kq,kG,Kd,KK⟩:=hrel
  rcases KK with⟨i,p,g,q,hi0,G3,Kc,hr,hB⟩|⟨hN,i,p,g,q,hr⟩
  ·have Hk:=Qpb r L i d false (dp || p) (gr || g) (dv || q) wr hr
   unfold Qjb at Hk
   simp only[Bool.false_eq_true,if_false]at Hk
   clear hr
   cases Hc:Qlc k (Qya L i)with
   | none=>
    have Hg:=hB.out _ (QLd (d:=d) (v:=v) Hc)
    go_wp2_with fail
    refine Hk.mono ?_
    rintro e w2 ⟨rfl,gT,kX⟩
    obtain⟨gt,m,z,c1,cm,hl⟩:=gT.look k HK.out (Qya L i) (Q5k gT i)
    rw[Hc]at hl
    simp only[Option.isSome_none]at hl
    have rl:=gT.cells.2.2.2.2.2.2.2.2.2.2.2.2.1
    have jL:=hid gT
    have HF:=hid Hg
    clear gT Hc Hg
    generalize Qya L i=t at *
    go_wp2_with fail
    go_ret
    refine .inl ⟨v,i,p,g,q,?_,rfl,Kq,kG,hi0,G3,jL.out,Kd.trans (Q0a kX) (fun _ _ e=>e)⟩
    have:=HF.out
    simpa[orF,noF]using this
   | some f=>
    obtain⟨qu,JE,vt,vu⟩:=Qyh HK.out Hc
    have mh:i+1≤L.length:=Qad (by intro e;rw[e,Qaf k HK.out]at Hc;exact absurd Hc (by simp))
    obtain⟨n,oJ,JS,M5⟩:=QAn f qu JE
    have JJ:=hid M5
    clear M5
    have d7:=Hc
    have Gu:=hid d7
    clear d7
    go_wp2_with fail
    refine Hk.mono ?_
    rintro e w2 ⟨rfl,gT,kX⟩
    obtain⟨gt,m,z,c1,cm,hl⟩:=gT.look k HK.out (Qya L i) (Q5k gT i)
    rw[Hc]at hl
    simp only[Option.isSome_some,oJ]at hl
    obtain⟨c2,_,_,_,_,_,f2,_,_,_,_,_,rl,_,_,_⟩:=gT.cells
    obtain⟨m9,bI⟩:=gT.on mh
    have qG:=HL.out (i+1) (by omega) _ _ _ _ m9
    clear gT m9 Hc Hk
    have tW:=hid vt
    have tX:=hid vu
    clear vt vu
    have hS:∃t,t=Qya L i:=⟨_,rfl⟩
    obtain⟨t,ht⟩:=hS
    rw[←ht]at hl
    have HT:=hid ht
    rw[←ht]
    clear ht
    go_wp2_with fail
    refine qG.mono ?_
    rintro e w3 G4
    obtain⟨u,rfl,J1,J2,Jn⟩:=G4.val
    have mM:=hid G4
    have oS:=((Kd.trans (Q0a kX) (fun _ _ e=>e)).trans bI (fun _ _ e=>e)).trans Jn (fun _ _ e=>e)
    have cF:=hid oS
    have lz:∃(j:Nat) (s2 p2 g2 q2:Bool),QNa w3 r L j d s2 p2 g2 q2:=by
     rcases mM.out with⟨_,j,_,_,_,_,_,_,_,_,_,ha,_⟩|⟨_,_,j,_,_,_,_,_,_,ha,_⟩
     ·exact⟨_,_,_,_,_,ha⟩
     ·exact⟨_,_,_,_,_,ha⟩
    obtain⟨jx,sx,px,gx,qx,lz⟩:=lz
    have c7:=lz.cells.2.2.2.2.2.1
    have f7:=lz.cells.2.2.2.2.2.2.2.2.2.2.2.1
    have rl3:=lz.cells.2.2.2.2.2.2.2.2.2.2.2.2.1
    clear G4 oS lz qG kX bI Jn Kd c1 cm hl c2 f2
    by_cases hz:u=0
    ·by_cases KT:t=⟨#[47]⟩
     ·subst hz
      subst KT
      have KM:f=2:=tW.out.2 HT.out.symm
      have JU:Qib f 0=true:=by rw[KM];rfl
      clear KM
      have hn:=Q0f hi0 Gu.out hB.out (w4:=w3.setCell ⟨r,7,none⟩ (.bool true)) (fun j syn dp gr dv hh=>by
       rw[JU,Bool.or_true]
       exact(hh.put 7 (.bool true) (i':=j) (d':=d) (syn':=syn) (dp':=dp) (gr':=gr) (dv':=true) hh.cells.2.2.2.2.2.2.2.2.2.2.2.2.2.1 hh.cells.2.2.2.2.2.2.2.2.2.2.2.2.2.2.2 (fun _ _=>rfl)).1) mM.out
      rw[if_pos JU]at hn
      have gU:=hid hn
      have aj:=hid (cF.out.setCell (p:=⟨r,7,none⟩) (.inr rfl) (.bool true))
      clear hn hB
      have Kb:=QGa f v 1 Kq kG (by omega) (by omega)
      go_wp2_with fail
      refine(JJ.out v 1 _ Kq kG (by omega) (by omega) (fun _=>by omega)).mono ?_
      rintro e w5 ⟨rfl,rfl⟩
      go_wp2_with fail
      go_roundg (gk-1)
      case measure=>omega
      case rel=>
       refine⟨_,rfl,Kb.1,Kb.2,aj.out,?_⟩
       rcases gU.out with⟨i',p',g',q',e1,e2,e3,e4⟩|e
       ·exact .inl ⟨i',p',g',q',by omega,e2,by omega,e3,e4⟩
       ·exact .inr e
     ·by_cases st:t=⟨#[37]⟩
      ·subst hz
       subst st
       have KM:f=3:=tX.out.2 HT.out.symm
       have JU:Qib f 0=true:=by rw[KM];rfl
       clear KM
       have hn:=Q0f hi0 Gu.out hB.out (w4:=w3.setCell ⟨r,7,none⟩ (.bool true)) (fun j syn dp gr dv hh=>by
        rw[JU,Bool.or_true]
        exact(hh.put 7 (.bool true) (i':=j) (d':=d) (syn':=syn) (dp':=dp) (gr':=gr) (dv':=true) hh.cells.2.2.2.2.2.2.2.2.2.2.2.2.2.1 hh.cells.2.2.2.2.2.2.2.2.2.2.2.2.2.2.2 (fun _ _=>rfl)).1) mM.out
       rw[if_pos JU]at hn
       have gU:=hid hn
       have aj:=hid (cF.out.setCell (p:=⟨r,7,none⟩) (.inr rfl) (.bool true))
       clear hn hB
       have Kb:=QGa f v 1 Kq kG (by omega) (by omega)
       go_wp2_with fail
       refine(JJ.out v 1 _ Kq kG (by omega) (by omega) (fun _=>by omega)).mono ?_
       rintro e w5 ⟨rfl,rfl⟩
       go_wp2_with fail
       go_roundg (gk-1)
       case measure=>omega
       case rel=>
        refine⟨_,rfl,Kb.1,Kb.2,aj.out,?_⟩
        rcases gU.out with⟨i',p',g',q',e1,e2,e3,e4⟩|e
        ·exact .inl ⟨i',p',g',q',by omega,e2,by omega,e3,e4⟩
        ·exact .inr e
      ·subst hz
       have n1:(t.toList == [47])=false:=by rw[beq_eq_false_iff_ne];intro e;exact KT (Qic e)
       have n2:(t.toList == [37])=false:=by rw[beq_eq_false_iff_ne];intro e;exact st (Qic e)
       have oD:f≠2:=fun e=>KT (HT.out.trans (tW.out.1 e))
       have oE:f≠3:=fun e=>st (HT.out.trans (tX.out.1 e))
       have JU:Qib f 0=false:=by unfold Qib;simp[oD,oE]
       have hn:=Q0f hi0 Gu.out hB.out (w4:=w3) (fun j syn dp gr dv hh=>by rw[JU,Bool.or_false];exact hh) mM.out
       rw[if_neg (by rw[JU];simp)]at hn
       have gU:=hid hn
       clear hn hB
       have Kb:=QGa f v 0 Kq kG J1 J2
       go_wp2_with fail
       refine(JJ.out v 0 w3 Kq kG J1 J2 (by rintro (e|e);exact absurd e oD;exact absurd e oE)).mono ?_
       rintro e w5 ⟨rfl,rfl⟩
       go_wp2_with fail
       go_roundg (gk-1)
       case measure=>omega
       case rel=>
        refine⟨_,rfl,Kb.1,Kb.2,cF.out,?_⟩
        rcases gU.out with⟨i',p',g',q',e1,e2,e3,e4⟩|e
        ·exact .inl ⟨i',p',g',q',by omega,e2,by omega,e3,e4⟩
        ·exact .inr e
    ·have dy:(u == 0)=false:=by simpa using hz
     have JU:Qib f u=false:=by unfold Qib;rw[dy];rfl
     have hn:=Q0f hi0 Gu.out hB.out (w4:=w3) (fun j syn dp gr dv hh=>by rw[JU,Bool.or_false];exact hh) mM.out
     rw[if_neg (by rw[JU];simp)]at hn
     have gU:=hid hn
     clear hn hB
     have Kb:=QGa f v u Kq kG J1 J2
     go_wp2_with fail
     refine(JJ.out v u w3 Kq kG J1 J2 (by intro _;omega)).mono ?_
     rintro e w5 ⟨rfl,rfl⟩
     go_wp2_with fail
     go_roundg (gk-1)
     case measure=>omega
     case rel=>
      refine⟨_,rfl,Kb.1,Kb.2,cF.out,?_⟩
      rcases gU.out with⟨i',p',g',q',e1,e2,e3,e4⟩|e
      ·exact .inl ⟨i',p',g',q',by omega,e2,by omega,e3,e4⟩
      ·exact .inr e
  ·have Hk:=Qpb r L i d true p g q wr hr
   unfold Qjb at Hk
   rw[if_pos rfl]at Hk
   clear hr
   go_wp2_with fail
   refine Hk.mono ?_
   rintro e w2 ⟨rfl,gT,kX⟩
   obtain⟨gt,m,z,c1,cm,hl⟩:=gT.look k HK.out ⟨#[]⟩ (Nat.zero_le _)
   rw[Qaf k HK.out]at hl
   simp only[Option.isSome_none]at hl
   have rl:=gT.cells.2.2.2.2.2.2.2.2.2.2.2.2.1
   have jL:=hid gT
   clear gT
   go_wp2_with fail
   go_ret
   exact .inr ⟨hN.out,v,i,p,g,q,rfl,Kq,kG,jL.out,Kd.trans (Q0a kX) (fun _ _ e=>e)⟩
theorem Qgl(r:Nat)(L:List (Int × ByteArray × Int))(d i:Nat)(dp gr dv:Bool)(w:World)
 (ho:Calls Tryz.prog 186 #[.pointer (some ⟨r,0,none⟩)] w (Q0b r L .opnd d i dp gr dv w)) :
 Calls Tryz.prog 183 #[.pointer (some ⟨r,0,none⟩),.int .i64 (-1)] w (Q0b r L (.lvl 0) d i dp gr dv w):=by
 go_enter Tryz.func183,Tryz.ntmps183
 go_wp2_with fail
 refine ho.mono ?_
 rintro e w2 G4
 obtain⟨v,rfl,_,_,_⟩:=G4.val
 have mM:=hid G4
 clear G4
 go_wp2_with fail
 go_ret
 rcases mM.out with⟨u,j,p,g,q,gM,rest⟩|⟨gM,rest⟩
 ·exact .inl ⟨u,j,p,g,q,QHg gM,rest⟩
 ·exact .inr ⟨QHg gM,rest⟩
theorem QEi(r:Nat)(L:List (Int × ByteArray × Int))(d i0:Nat)
 (hO:∀j,i0≤j→∀(dp gr dv:Bool) (w:World),QNa w r L j d false dp gr dv→Calls Tryz.prog 186 #[.pointer (some ⟨r,0,none⟩)] w (Q0b r L .opnd d j dp gr dv w)) :
 ∀(k:Nat),k≤10→∀j,i0≤j→∀(dp gr dv:Bool) (w:World),QNa w r L j d false dp gr dv→
  Calls Tryz.prog 183 #[.pointer (some ⟨r,0,none⟩),.int .i64 ((k:Int)-1)] w (Q0b r L (.lvl k) d j dp gr dv w):=by
 intro k
 induction k with
 | zero=>intro _ j hj dp gr dv w h;exact Qgl r L d j dp gr dv w (hO j hj dp gr dv w h)
 | succ k ih=>
  intro hk j hj dp gr dv w h
  rw[show(((k+1:Nat):Int)-1)=(k:Int)from by omega]
  exact QXg r L d j k (by omega) dp gr dv w h (fun j' hj'=>ih (by omega) j' (by omega))
set_option maxRecDepth 100000 in
theorem QFi(r:Nat)(L:List (Int × ByteArray × Int))(d i0:Nat)(dp gr dv:Bool)(w:World)(h:QNa w r L i0 d false dp gr dv)
 (hV:Calls Tryz.prog 183 #[.pointer (some ⟨r,0,none⟩),.int .i64 9] w (Q0b r L (.lvl 10) d i0 dp gr dv w))
 (hW:∀j,i0<j→∀(dp gr dv:Bool) (w:World),QNa w r L j d false dp gr dv→Calls Tryz.prog 161 #[.pointer (some ⟨r,0,none⟩)] w (Q0b r L .whole d j dp gr dv w)) :
 Calls Tryz.prog 161 #[.pointer (some ⟨r,0,none⟩)] w (Q0b r L .whole d i0 dp gr dv w):=by
 obtain⟨gt,m,z,c1,cm,hl⟩:=h.look 0 (by omega) ⟨#[]⟩ (Nat.zero_le _)
 have rl:=h.cells.2.2.2.2.2.2.2.2.2.2.2.2.1
 have HW:=hid hW
 clear h cm hl hW
 go_enter Tryz.func161,Tryz.ntmps161
 go_wp2_with fail
 refine hV.mono ?_
 clear hV c1
 rintro e w1 (⟨v,j,p,g,q,gM,rfl,Kq,kG,qA,qB,gi,ja⟩|⟨gM,v,j,p,g,q,rfl,Kq,kG,gi,ja⟩)
 ·have Hk:=Qpb r L j d false _ _ _ w1 gi
  unfold Qjb at Hk
  simp only[Bool.false_eq_true,if_false]at Hk
  have ki:=hid gM
  clear gM
  by_cases hs:Qya L j=⟨#[63]⟩
  ·have mh:j+1≤L.length:=Qad (by rw[hs];decide)
   have HS:=hid hs
   rw[hs]at Hk
   clear hs
   go_wp2_with fail
   refine Hk.mono ?_
   rintro e w2 ⟨rfl,gT,kX⟩
   obtain⟨c2,_,_,_,_,_,f2,_,_,_,_,_,rl2,_,_,_⟩:=gT.cells
   obtain⟨m9,bI⟩:=gT.on mh
   have MM:=HW.out (j+1) (by omega) _ _ _ _ m9
   have Jn:=(ja.trans (Q0a kX) (fun _ _ e=>e)).trans bI (fun _ _ e=>e)
   clear gT m9 Hk gi ja kX bI
   go_wp2_with fail
   refine MM.mono ?_
   clear MM c2 f2
   rintro e w3 (⟨y,j2,p2,g2,q2,jc,rfl,kV,kI,Gr,vD,MK,bJ⟩|⟨jc,y,j2,p2,g2,q2,rfl,kV,kI,MK,bJ⟩)
   ·have Jo:=Jn.trans bJ (fun _ _ e=>e)
    have jQ:=Qde r L j2 d false _ _ _ ⟨#[58]⟩ _ MK (by decide)
    unfold Qnd at jQ
    have Jb:=hid jc
    clear MK Jn bJ jc
    by_cases hc:Qya L j2=⟨#[58]⟩
    ·have hin2:j2+1≤L.length:=Qad (by rw[hc];decide)
     have HC:=hid hc
     go_wp2_with fail
     refine jQ.mono ?_
     rintro e w4 ⟨rfl,Gs,dT,_⟩
     have jV:=dT ⟨by trivial,hc⟩
     have gE:=Jo.trans Gs (fun _ _ e=>e)
     have MM:=HW.out (j2+1) (by omega) _ _ _ _ jV
     clear jQ dT jV Jo Gs hc
     go_wp2_with fail
     refine MM.mono ?_
     clear MM
     rintro e w5 (⟨u,j4,p4,g4,q4,bS,rfl,J1,J2,hj4,qC,JG,Jp⟩|⟨bS,u,j4,p4,g4,q4,rfl,J1,J2,JG,Jp⟩)
     ·have bE:=gE.trans Jp (fun _ _ e=>e)
      have bA:=hid (QYm ki.out HS.out Jb.out HC.out bS)
      have mB:=hid JG
      clear JG bS
      by_cases hz:v=0
      ·have dy:(v != 0)=false:=by subst hz;rfl
       go_wp2_with fail
       go_ret
       exact .inl ⟨u,j4,p || p2 || p4,g || g2 || g4,q || q2 || q4,by have:=bA.out;simpa[orF,hz]using this,rfl,J1,J2,by omega,qC,by simpa[Bool.or_assoc]using mB.out,bE⟩
      ·have dy:(v != 0)=true:=by simpa using hz
       go_wp2_with fail
       go_ret
       exact .inl ⟨y,j4,p || p2 || p4,g || g2 || g4,q || q2 || q4,by have:=bA.out;simpa[orF,hz]using this,rfl,kV,kI,by omega,qC,by simpa[Bool.or_assoc]using mB.out,bE⟩
     ·have bE:=gE.trans Jp (fun _ _ e=>e)
      have bA:=hid (QYm ki.out HS.out Jb.out HC.out bS)
      have mB:=hid JG
      clear JG bS
      by_cases hz:v=0
      ·have dy:(v != 0)=false:=by subst hz;rfl
       go_wp2_with fail
       go_ret
       exact .inr ⟨bA.out,u,j4,p4,g4,q4,rfl,J1,J2,mB.out,bE⟩
      ·have dy:(v != 0)=true:=by simpa using hz
       go_wp2_with fail
       go_ret
       exact .inr ⟨bA.out,y,j4,p4,g4,q4,rfl,kV,kI,mB.out,bE⟩
    ·have bA:=hid (Q8i ki.out HS.out Jb.out hc)
     go_wp2_with fail
     refine jQ.mono ?_
     rintro e w4 ⟨rfl,Gs,_,bo⟩
     have jV:=bo (fun e=>hc e.2)
     have gE:=Jo.trans Gs (fun _ _ e=>e)
     have MM:=Qgj r L d _ _ _ _ w4 jV
     unfold QRd at MM
     clear jQ bo jV Jo Gs hc
     go_wp2_with fail
     refine MM.mono ?_
     clear MM
     rintro e w5 ⟨u,j4,p4,g4,q4,rfl,J1,J2,JG,Jp⟩
     have bE:=gE.trans Jp (fun _ _ e=>e)
     have mB:=hid JG
     clear JG
     by_cases hz:v=0
     ·have dy:(v != 0)=false:=by subst hz;rfl
      go_wp2_with fail
      go_ret
      exact .inr ⟨bA.out,u,j4,p4,g4,q4,rfl,J1,J2,mB.out,bE⟩
     ·have dy:(v != 0)=true:=by simpa using hz
      go_wp2_with fail
      go_ret
      exact .inr ⟨bA.out,y,j4,p4,g4,q4,rfl,kV,kI,mB.out,bE⟩
   ·have Jo:=Jn.trans bJ (fun _ _ e=>e)
    have jQ:=Qde r L j2 d true _ _ _ ⟨#[58]⟩ _ MK (by decide)
    unfold Qnd at jQ
    have bA:=hid (Qvh ki.out HS.out jc)
    clear MK Jn bJ jc
    go_wp2_with fail
    refine jQ.mono ?_
    rintro e w4 ⟨rfl,Gs,_,bo⟩
    have jV:=bo (by simp)
    have gE:=Jo.trans Gs (fun _ _ e=>e)
    have MM:=Qgj r L d _ _ _ _ w4 jV
    unfold QRd at MM
    clear jQ bo jV Jo Gs
    go_wp2_with fail
    refine MM.mono ?_
    clear MM
    rintro e w5 ⟨u,j4,p4,g4,q4,rfl,J1,J2,JG,Jp⟩
    have bE:=gE.trans Jp (fun _ _ e=>e)
    have mB:=hid JG
    clear JG
    by_cases hz:v=0
    ·have dy:(v != 0)=false:=by subst hz;rfl
     go_wp2_with fail
     go_ret
     exact .inr ⟨bA.out,u,j4,p4,g4,q4,rfl,J1,J2,mB.out,bE⟩
    ·have dy:(v != 0)=true:=by simpa using hz
     go_wp2_with fail
     go_ret
     exact .inr ⟨bA.out,y,j4,p4,g4,q4,rfl,kV,kI,mB.out,bE⟩
  ·have jk:((Qya L j).toList == [63])=false:=by
    rw[beq_eq_false_iff_ne];intro e;exact hs (Qic e)
   have HF:=hid (Q6f ki.out hs)
   clear hs
   generalize Qya L j=t at Hk jk
   go_wp2_with fail
   refine Hk.mono ?_
   rintro e w2 ⟨rfl,gT,kX⟩
   go_wp2_with fail
   go_ret
   exact .inl ⟨v,j,p,g,q,HF.out,rfl,Kq,kG,qA,qB,gT,ja.trans (Q0a kX) (fun _ _ e=>e)⟩
 ·have Hk:=Qpb r L j d true _ _ _ w1 gi
  unfold Qjb at Hk
  rw[if_pos rfl]at Hk
  go_wp2_with fail
  refine Hk.mono ?_
  rintro e w2 ⟨rfl,gT,kX⟩
  go_wp2_with fail
  go_ret
  exact .inr ⟨Q8e gM,v,j,p,g,q,rfl,Kq,kG,gT,ja.trans (Q0a kX) (fun _ _ e=>e)⟩
theorem Qep(r:Nat)(L:List (Int × ByteArray × Int)):∀(m i:Nat),L.length≤i+m→∀(d:Nat) (dp gr dv:Bool) (w:World),QNa w r L i d false dp gr dv→
 Calls Tryz.prog 161 #[.pointer (some ⟨r,0,none⟩)] w (Q0b r L .whole d i dp gr dv w):=by
 intro m
 induction m with
 | zero=>
  intro i hm
  have hP:∀(d j:Nat),i≤j→∀(dp gr dv:Bool) (w:World),QNa w r L j d false dp gr dv→Calls Tryz.prog 155 #[.pointer (some ⟨r,0,none⟩)] w (Q0b r L .prim d j dp gr dv w):=
   fun d j hj dp gr dv w h=>QAe r L d j dp gr dv w h (fun hi=>by omega)
  intro d dp gr dv w h
  have hO:∀j,i≤j→∀(dp gr dv:Bool) (w:World),QNa w r L j d false dp gr dv→Calls Tryz.prog 186 #[.pointer (some ⟨r,0,none⟩)] w (Q0b r L .opnd d j dp gr dv w):=
   fun j hj dp gr dv w h=>Qmg r L d j dp gr dv w h (fun j' hj' w' h'=>hP d j' (by omega) dp gr dv w' h')
  refine QFi r L d i dp gr dv w h (QEi r L d i hO 10 (Nat.le_refl _) i (Nat.le_refl _) dp gr dv w h) ?_
  intro j hj dp gr dv w' h'
  have:=h'.cells.2.2.2.2.2.2.2.2.2.2.2.2.2.1
  omega
 | succ m ih=>
  intro i hm
  have hP:∀(d j:Nat),i≤j→∀(dp gr dv:Bool) (w:World),QNa w r L j d false dp gr dv→Calls Tryz.prog 155 #[.pointer (some ⟨r,0,none⟩)] w (Q0b r L .prim d j dp gr dv w):=
   fun d j hj dp gr dv w h=>QAe r L d j dp gr dv w h (fun _ dp gr dv w h=>ih (j+1) (by omega) (d+1) dp gr dv w h)
  intro d dp gr dv w h
  have hO:∀j,i≤j→∀(dp gr dv:Bool) (w:World),QNa w r L j d false dp gr dv→Calls Tryz.prog 186 #[.pointer (some ⟨r,0,none⟩)] w (Q0b r L .opnd d j dp gr dv w):=
   fun j hj dp gr dv w h=>Qmg r L d j dp gr dv w h (fun j' hj' w' h'=>hP d j' (by omega) dp gr dv w' h')
  refine QFi r L d i dp gr dv w h (QEi r L d i hO 10 (Nat.le_refl _) i (Nat.le_refl _) dp gr dv w h) ?_
  intro j hj dp gr dv w' h'
  exact ih j (by omega) d dp gr dv w' h'
def QSf:Option (Int × Nat × Bool × Bool × Bool)→Int × Int × Int
 | none=>(0,0,6)
 | some (v,j,p,g,q)=>if p=true then(0,0,3)else if g=true then(0,0,2)else if q=true then(0,0,22)else(v,j,0)
def Qrf(s p g q:Bool)(u:Int)(j:Nat):Int × Int × Int:=if s=true then(0,0,6)else if p=true then(0,0,3)else if g=true then(0,0,2)else if q=true then(0,0,22)else(u,j,0)
def mkF(s p g q:Bool):Nat→Bool
 | 0=>s
 | 1=>p
 | 2=>g
 | _=>q
theorem QWe(w:World)(o:Obj)(n:Nat):Qaa (fun _=>False) w ((w.alloc o).drewN n):=((Qaa.refl _ w).alloc o).drewN n
theorem Qaa.cell_of{w w':World}(k:Qaa (fun _=>False) w w'){g o:Nat}{v:Value}(h:w.cell? ⟨g,o,none⟩=some v)(hl:g<w.heap.size):w'.cell? ⟨g,o,none⟩=some v:=
 (k.cell (p:=⟨g,o,none⟩) hl (fun e=>e)).trans h
theorem Qvm(w:World)(s p g q:Bool)(t:Nat) :
 ∃(W:World) (b:Nat),(w.alloc (.cells #[.bool s,.int .i64 6,.bool p,.int .i64 3,.bool g,.int .i64 2,.bool q,.int .i64 22] t)).drew=W∧w.heap.size=b∧W.cell? ⟨b,0,none⟩=some (.bool s)∧W.cell? ⟨b,1,none⟩=some (.int .i64 6)∧W.cell? ⟨b,2,none⟩=some (.bool p)∧W.cell? ⟨b,3,none⟩=some (.int .i64 3)∧W.cell? ⟨b,4,none⟩=some (.bool g)∧W.cell? ⟨b,5,none⟩=some (.int .i64 2)∧W.cell? ⟨b,6,none⟩=some (.bool q)∧W.cell? ⟨b,7,none⟩=some (.int .i64 22)∧b<W.heap.size∧Qaa (fun _=>False) w W:=by
 have hn:=Qca.new w #[.bool s,.int .i64 6,.bool p,.int .i64 3,.bool g,.int .i64 2,.bool q,.int .i64 22] t
 exact⟨_,_,rfl,rfl,hn.cell 0,hn.cell 1,hn.cell 2,hn.cell 3,hn.cell 4,hn.cell 5,hn.cell 6,hn.cell 7,hn.lt,((Qaa.refl _ w).alloc _).drewN 1⟩
theorem Qvl{r:Nat}{L:List (Int × ByteArray × Int)}{W:Wh}{d i:Nat}{w:World}{e:Ending}{w':World}(h:Q0b r L W d i false false false w e w') :
 ∃(u:Int) (j:Nat) (s p g q:Bool),e = .returned (.int .u32 u)∧0≤u∧u≤4294967295∧j≤1000000000∧w'.cell? ⟨r,2,none⟩=some (.int .i64 j)∧w'.cell? ⟨r,4,none⟩=some (.bool s)∧w'.cell? ⟨r,5,none⟩=some (.bool p)∧w'.cell? ⟨r,6,none⟩=some (.bool g)∧w'.cell? ⟨r,7,none⟩=some (.bool q)∧r<w'.heap.size∧Qaa (fun b=>b=r) w w'∧
  ∃res,Rd L W d i res∧QSf res=Qrf s p g q u j:=by
 rcases h with⟨u,j,p,g,q,hr,rfl,h0,h1,_,_,ha,hk⟩|⟨hr,u,j,p,g,q,rfl,h0,h1,ha,hk⟩
 ·obtain⟨c2,_,c4,c5,c6,c7,_,_,_,_,_,_,rl,hj,hL,_⟩:=ha.cells
  refine⟨u,j,false,p,g,q,rfl,h0,h1,by omega,c2,c4,by simpa using c5,by simpa using c6,by simpa using c7,rl,hk,_,hr,?_⟩
  simp[QSf,Qrf]
 ·obtain⟨c2,_,c4,c5,c6,c7,_,_,_,_,_,_,rl,hj,hL,_⟩:=ha.cells
  exact⟨u,j,true,p,g,q,rfl,h0,h1,by omega,c2,c4,c5,c6,c7,rl,hk,_,hr,rfl⟩
def Quj(fl:Bool × Bool × Bool)(res:Option (Int × Nat × Bool × Bool × Bool)):Option (Int × Nat × Bool × Bool × Bool):=res.map fun y=>(y.1,y.2.1,orF fl y.2.2)
theorem Qrk(a b:Bool × Bool × Bool)(res:Option (Int × Nat × Bool × Bool × Bool)):Quj a (Quj b res)=Quj (orF a b) res:=by
 cases res with
 | none=>rfl
 | some y=>simp[Quj,QGm]
theorem QVq(a:Bool × Bool × Bool):orF a noF=a:=by simp[orF,noF]
theorem QUq(a:Bool × Bool × Bool):orF noF a=a:=by simp[orF,noF]
theorem QXl(res:Option (Int × Nat × Bool × Bool × Bool)):Quj noF res=res:=by
 cases res with
 | none=>rfl
 | some y=>simp[Quj,QUq]
def RL(L:List (Int × ByteArray × Int)):Nat→Int→Nat→Nat→Option (Int × Nat × Bool × Bool × Bool)→Prop
 | 0,v,_,i,res=>res=some (v,i,noF)
 | K+1,v,d,i,res=>∃r1,RL L K v d i r1∧match r1 with
  | none=>res=none
  | some q=>∃r2,Rd L (.loop K q.1) d q.2.1 r2∧res=Quj q.2.2 r2
theorem RL.det{L:List (Int × ByteArray × Int)}:∀{K:Nat} {v:Int} {d i:Nat} {r s:Option (Int × Nat × Bool × Bool × Bool)},RL L K v d i r→RL L K v d i s→r=s:=by
 intro K
 induction K with
 | zero=>intro v d i r s h k;exact h.trans k.symm
 | succ K ih=>
  intro v d i r s ⟨a,ha,Mm⟩ ⟨b,hb,Ho⟩
  obtain rfl:=ih ha hb
  cases a with
  | none=>exact Mm.trans Ho.symm
  | some q=>
   obtain⟨x,hx,rfl⟩:=Mm
   obtain⟨y,hy,rfl⟩:=Ho
   rw[hx.det hy]
theorem QZm{L:List (Int × ByteArray × Int)}{d i:Nat}{q:Int × Nat × Bool × Bool × Bool}(h:Rd L .opnd d i (some q)):∀(K:Nat) (res:Option (Int × Nat × Bool × Bool × Bool)),RL L K q.1 d q.2.1 res→Rd L (.lvl K) d i (Quj q.2.2 res):=by
 intro K
 induction K with
 | zero=>
  intro res hr
  obtain rfl:res=some (q.1,q.2.1,noF):=hr
  show Rd L (.lvl 0) d i (some (q.1,q.2.1,orF q.2.2 noF))
  rw[QVq]
  exact QHg h
 | succ K ih=>
  intro res ⟨r1,h1,h2⟩
  have:=ih r1 h1
  cases r1 with
  | none=>
   obtain rfl:res=none:=h2
   exact QKe this
  | some p=>
   obtain⟨r2,h3,rfl⟩:=h2
   rw[Qrk]
   exact QVk (q:=(p.1,p.2.1,orF q.2.2 p.2.2)) this h3
theorem QXk{L:List (Int × ByteArray × Int)}{v:Int}{d i:Nat}:∀(K:Nat),(∀q,q<K→Qlc q (Qya L i)=none)→RL L K v d i (some (v,i,noF)):=by
 intro K
 induction K with
 | zero=>intro _;rfl
 | succ K ih=>
  intro h
  refine⟨_,ih (fun q hq=>h q (by omega)),?_⟩
  exact⟨_,QLd (h K (by omega)),by simp[Quj,orF,noF]⟩
theorem QTn{L:List (Int × ByteArray × Int)}{k d:Nat}(hl:∀(i:Nat) (q:Int × Nat × Bool × Bool × Bool),Rd L (.lvl k) d i (some q)→∀m,m<k→Qlc m (Qya L q.2.1)=none) :
 ∀(n:Nat) (v:Int) (i:Nat) (q:Int × Nat × Bool × Bool × Bool),evT L n (.loop k v) d i=some (some q)→(∀m,m<k→Qlc m (Qya L i)=none)→∀m,m<k+1→Qlc m (Qya L q.2.1)=none:=by
 intro n
 induction n with
 | zero=>intro v i q h;simp[evT]at h
 | succ n ih=>
  intro v i q h hp m hm
  rw[evT]at h
  cases hr:Qlc k (Qya L i)with
  | none=>
   rw[hr]at h
   obtain rfl:=Option.some.inj (Option.some.inj h)
   rcases Nat.lt_or_ge m k with c|c
   ·exact hp m c
   ·obtain rfl:m=k:=by omega
    exact hr
  | some f=>
   rw[hr]at h
   obtain⟨r,gi,gT⟩:=Option.bind_eq_some_iff.1 h
   cases r with
   | none=>simp at gT
   | some y=>
    obtain⟨r2,h3,h4⟩:=Option.map_eq_some_iff.1 gT
    cases r2 with
    | none=>simp at h4
    | some z=>
     have:=ih _ _ _ h3 (hl _ _ ⟨n,gi⟩) m hm
     simp only[Option.map_some,Option.some.injEq]at h4
     rw[←h4];exact this
theorem QBp{L:List (Int × ByteArray × Int)}{d:Nat}:∀(k i:Nat) (q:Int × Nat × Bool × Bool × Bool),Rd L (.lvl k) d i (some q)→∀m,m<k→Qlc m (Qya L q.2.1)=none:=by
 intro k
 induction k with
 | zero=>intro i q _ m hm;omega
 | succ k ih=>
  intro i q ⟨n,hn⟩ m hm
  cases n with
  | zero=>simp[evT]at hn
  | succ n=>
   rw[evT]at hn
   obtain⟨r,gi,gT⟩:=Option.bind_eq_some_iff.1 hn
   cases r with
   | none=>simp at gT
   | some y=>
    obtain⟨r2,h3,h4⟩:=Option.map_eq_some_iff.1 gT
    cases r2 with
    | none=>simp at h4
    | some z=>
     have:=QTn (fun i q h=>ih i q h) n _ _ _ h3 (ih i y ⟨n,gi⟩) m hm
     simp only[Option.map_some,Option.some.injEq]at h4
     rw[←h4];exact this
section
variable{L:List (Int × ByteArray × Int)}{d j k f:Nat}{x:Int}
theorem Qfq{u:Int × Nat × Bool × Bool × Bool}(Hc:Qlc k (Qya L j)=some f)(gP:∀m,m<k→Qlc m (Qya L j)=none)(h:Rd L (.lvl k) d (j+1) (some u)) :
 ∀(K:Nat),k<K→∀res,RL L K (Q4b f x (if Qib f u.1=true then 1 else u.1)) d u.2.1 res→RL L K x d j (Quj (orF u.2.2 (false,false,Qib f u.1)) res):=by
 intro K
 induction K with
 | zero=>intro hk;omega
 | succ K ih=>
  intro hk res ⟨r1,h1,h2⟩
  rcases Nat.lt_or_ge k K with c|c
  ·have:=ih c r1 h1
   refine⟨_,this,?_⟩
   cases r1 with
   | none=>obtain rfl:res=none:=h2;rfl
   | some p=>
    obtain⟨r2,h3,rfl⟩:=h2
    exact⟨r2,h3,by rw[Qrk]⟩
  ·obtain rfl:k=K:=by omega
   have e1:=h1.det (QXk k (QBp k _ _ h))
   subst e1
   obtain⟨r2,h3,rfl⟩:=h2
   refine⟨_,QXk k gP,?_⟩
   refine⟨_,Q8h Hc h h3,?_⟩
   show Quj _ (Quj noF r2)=Quj noF _
   rw[QXl,QXl]
   rfl
end
set_option maxRecDepth 100000 in
theorem QMh(L:List (Int × ByteArray × Int))(v:Value)(i:Nat)(w:World)(hv:Qcg (fun x=>x<w.heap.size) w v L)(hL:L.length≤1000000000)(hi:i<L.length) :
 Calls Tryz.prog 154 #[v,.int .i64 i,.func (.func 155) #[] #[]] w fun e w'=>∃res,Rd L .prim 0 i res∧e = .returned (.tuple #[.int .i64 (QSf res).1,.int .i64 (QSf res).2.1,.int .i64 (QSf res).2.2])∧Below w.heap.size w w':=by
 have oK:(i:Int)<(L.length:Int):=by omega
 have Kc:¬((L.length:Int)≤(i:Int)):=by omega
 have ht:=Qam w
 have HV:=hid hv
 obtain⟨a,cap,rfl,_⟩:=hv
 go_enter Tryz.func154,Tryz.ntmps154
 go_wp2_with fail
 refine ht.mono ?_
 rintro e w1 ⟨g,bs,rfl,pJ,Hf,sX,sY,gI⟩
 have pO:=gI.size
 have cu:QNa (w1.alloc (.cells #[.slice a L.length cap,.slice (some ⟨g,0,none⟩) 10 10,.int .i64 i,.int .i64 (0:Nat),.bool false,.bool false,.bool false,.bool false] 190)) w1.heap.size L i 0 false false false false:=by
  have k1:Qaa (fun _=>False) w w1:=Qaa.of_fresh gI _
  have k2:=(Qaa.refl (fun _=>False) w1).alloc (.cells #[.slice a L.length cap,.slice (some ⟨g,0,none⟩) 10 10,.int .i64 i,.int .i64 (0:Nat),.bool false,.bool false,.bool false,.bool false] 190)
  have dE:=(HV.out.keeps k1 (fun _ _ e=>e)).keeps k2 (fun _ _ e=>e)
  obtain⟨a',c',e1,e2,e3⟩:=dE
  refine⟨.slice a L.length cap,g,bs,Qca.new w1 _ _,⟨a',c',e1,e2,fun h0=>?_⟩,pJ.keeps k2 (fun e=>e) (fun _ _ e=>e),by omega,fun b hb e=>?_,by omega,hL,by omega⟩
  ·obtain⟨g',o',f1,f2,f3⟩:=e3 h0
   exact⟨g',o',f1,(by show g'≠w1.heap.size;omega),f3⟩
  ·have:=Hf b hb;omega
 have MM:=QAe w1.heap.size L 0 i false false false _ cu (fun hj dp gr dv wx hx=>Qep w1.heap.size L L.length (i+1) (by omega) 1 dp gr dv wx hx)
 go_wp2_with fail
 refine(by exact MM:Calls _ _ _ _ _).mono ?_
 rintro e w2 G4
 obtain⟨u,j,s,p,g2,q,rfl,J1,J2,hj,c2,c4,c5,c6,c7,rl,lq,Gh⟩:=Qvl G4
 have J9:w1.heap.size<w2.heap.size:=rl
 obtain⟨b,hb⟩:∃b,b=w1.heap.size:=⟨_,rfl⟩
 rw[←hb]at c2 c4 c5 c6 c7 J9 rl
 have HK:=hid lq
 have HT:=hid (show True from trivial)
 clear MM cu G4 lq HT ht pJ Hf sX sY HV
 have HB:=hid gI
 have Jf:=hid pO
 clear gI pO
 rw[←hb]
 have K7:=hid hb
 clear hb
 go_wp2_with fail
 go_region
 obtain⟨W3,gb,bd,db,m0,m1,m2,m3,m4,m5,m6,m7,m8,mk⟩:=Qvm w2 s p g2 q 191
 rw[bd,db]
 have c2':=(mk.cell (p:=⟨b,2,none⟩) rl (fun e=>e)).trans c2
 have c2l:b<W3.heap.size:=Nat.lt_of_lt_of_le rl mk.size
 have ck:=hid mk
 clear mk c2 c4 c5 c6 c7 rl J9 bd db
 have MV:=hid Gh
 clear Gh
 go_wp2_with fail
 go_loopg [12,51] 4 (fun f x y wr=>∃k:Nat,y = .int .i64 (k:Int)∧k+f=4∧Hid (∀j,j<k→mkF s p g2 q j=false)∧Hid (Qaa (fun _=>False) W3 wr))
 case atStart=>exact⟨0,rfl,rfl,hid (by intro j hj;omega),hid (Qaa.refl _ _)⟩
 case round=>
  obtain⟨k,hy,JV,hM,Kd⟩:=hrel
  have e0:=Kd.out.cell_of m0 m8
  have e1:=Kd.out.cell_of m1 m8
  have e2:=Kd.out.cell_of m2 m8
  have e3:=Kd.out.cell_of m3 m8
  have e4:=Kd.out.cell_of m4 m8
  have e5:=Kd.out.cell_of m5 m8
  have e6:=Kd.out.cell_of m6 m8
  have e7:=Kd.out.cell_of m7 m8
  have e8:gb<wr.heap.size:=Nat.lt_of_lt_of_le m8 Kd.out.size
  have c2w:=Kd.out.cell_of c2' c2l
  have c2v:b<wr.heap.size:=Nat.lt_of_lt_of_le c2l Kd.out.size
  have Hs:k=0∨k=1∨k=2∨k=3∨k=4:=by omega
  clear m0 m1 m2 m3 m4 m5 m6 m7 m8 c2' c2l
  rcases Hs with rfl|rfl|rfl|rfl|rfl
  ·obtain rfl:u51 = .int .i64 0:=hy
   cases s
   ·go_wp2_with fail
    go_roundg (gk-1)
    case measure=>omega
    case rel=>
     refine⟨1,rfl,by omega,hid ?_,hid ?_⟩
     ·intro j hj
      rcases Nat.lt_or_ge j 0 with c|c
      ·exact hM.out j c
      ·obtain rfl:j=0:=by omega
       rfl
     ·exact Kd.out.alloc _
   ·have kh:=hM.out
    clear hM
    have Gz:=hid kh
    clear kh
    go_wp2_with fail
    go_quiet (fail)
    go_wp2_with fail
    go_ret3
    obtain⟨res,gM,dB⟩:=MV.out
    have hv:QSf res=(0,0,6):=by rw[dB];simp[Qrf]
    have B1:Below w.heap.size w w2:=(HB.out.alloc Jf.out _).trans (HK.out.below (by have:=Jf.out;simp;omega) (fun i hi e=>by have:=Jf.out;omega))
    have B2:Below w.heap.size w wr:=B1.trans ((ck.out.trans Kd.out (fun _ _ e=>e)).below B1.size (fun _ _ e=>e))
    exact⟨res,gM,by rw[hv];rfl,B2.trans (Qaa.below (S:=fun _=>False) (QWe wr _ _) B2.size (fun _ _ e=>e))⟩
  ·obtain rfl:u51 = .int .i64 1:=hy
   cases p
   ·go_wp2_with fail
    go_roundg (gk-1)
    case measure=>omega
    case rel=>
     refine⟨2,rfl,by omega,hid ?_,hid ?_⟩
     ·intro j hj
      rcases Nat.lt_or_ge j 1 with c|c
      ·exact hM.out j c
      ·obtain rfl:j=1:=by omega
       rfl
     ·exact Kd.out.alloc _
   ·have kh:=hM.out
    clear hM
    have Gz:=hid kh
    clear kh
    go_wp2_with fail
    go_quiet (fail)
    go_wp2_with fail
    go_ret3
    obtain⟨res,gM,dB⟩:=MV.out
    have f0:=Gz.out 0 (by omega)
    simp only[mkF]at f0
    have hv:QSf res=(0,0,3):=by rw[dB];simp[Qrf,f0]
    have B1:Below w.heap.size w w2:=(HB.out.alloc Jf.out _).trans (HK.out.below (by have:=Jf.out;simp;omega) (fun i hi e=>by have:=Jf.out;omega))
    have B2:Below w.heap.size w wr:=B1.trans ((ck.out.trans Kd.out (fun _ _ e=>e)).below B1.size (fun _ _ e=>e))
    exact⟨res,gM,by rw[hv];rfl,B2.trans (Qaa.below (S:=fun _=>False) (QWe wr _ _) B2.size (fun _ _ e=>e))⟩
  ·obtain rfl:u51 = .int .i64 2:=hy
   cases g2
   ·go_wp2_with fail
    go_roundg (gk-1)
    case measure=>omega
    case rel=>
     refine⟨3,rfl,by omega,hid ?_,hid ?_⟩
     ·intro j hj
      rcases Nat.lt_or_ge j 2 with c|c
      ·exact hM.out j c
      ·obtain rfl:j=2:=by omega
       rfl
     ·exact Kd.out.alloc _
   ·have kh:=hM.out
    clear hM
    have Gz:=hid kh
    clear kh
    go_wp2_with fail
    go_quiet (fail)
    go_wp2_with fail
    go_ret3
    obtain⟨res,gM,dB⟩:=MV.out
    have f0:=Gz.out 0 (by omega)
    simp only[mkF]at f0
    have f1:=Gz.out 1 (by omega)
    simp only[mkF]at f1
    have hv:QSf res=(0,0,2):=by rw[dB];simp[Qrf,f0,f1]
    have B1:Below w.heap.size w w2:=(HB.out.alloc Jf.out _).trans (HK.out.below (by have:=Jf.out;simp;omega) (fun i hi e=>by have:=Jf.out;omega))
    have B2:Below w.heap.size w wr:=B1.trans ((ck.out.trans Kd.out (fun _ _ e=>e)).below B1.size (fun _ _ e=>e))
    exact⟨res,gM,by rw[hv];rfl,B2.trans (Qaa.below (S:=fun _=>False) (QWe wr _ _) B2.size (fun _ _ e=>e))⟩
  ·obtain rfl:u51 = .int .i64 3:=hy
   cases q
   ·go_wp2_with fail
    go_roundg (gk-1)
    case measure=>omega
    case rel=>
     refine⟨4,rfl,by omega,hid ?_,hid ?_⟩
     ·intro j hj
      rcases Nat.lt_or_ge j 3 with c|c
      ·exact hM.out j c
      ·obtain rfl:j=3:=by omega
       rfl
     ·exact Kd.out.alloc _
   ·have kh:=hM.out
    clear hM
    have Gz:=hid kh
    clear kh
    go_wp2_with fail
    go_quiet (fail)
    go_wp2_with fail
    go_ret3
    obtain⟨res,gM,dB⟩:=MV.out
    have f0:=Gz.out 0 (by omega)
    simp only[mkF]at f0
    have f1:=Gz.out 1 (by omega)
    simp only[mkF]at f1
    have f2:=Gz.out 2 (by omega)
    simp only[mkF]at f2
    have hv:QSf res=(0,0,22):=by rw[dB];simp[Qrf,f0,f1,f2]
    have B1:Below w.heap.size w w2:=(HB.out.alloc Jf.out _).trans (HK.out.below (by have:=Jf.out;simp;omega) (fun i hi e=>by have:=Jf.out;omega))
    have B2:Below w.heap.size w wr:=B1.trans ((ck.out.trans Kd.out (fun _ _ e=>e)).below B1.size (fun _ _ e=>e))
    exact⟨res,gM,by rw[hv];rfl,B2.trans (Qaa.below (S:=fun _=>False) (QWe wr _ _) B2.size (fun _ _ e=>e))⟩
  ·obtain rfl:u51 = .int .i64 4:=hy
   go_wp2_with fail
   go_quiet (fail)
   go_wp2_with fail
   go_ret3
   obtain⟨res,gM,dB⟩:=MV.out
   have f0:=hM.out 0 (by omega)
   simp only[mkF]at f0
   have f1:=hM.out 1 (by omega)
   simp only[mkF]at f1
   have f2:=hM.out 2 (by omega)
   simp only[mkF]at f2
   have f3:=hM.out 3 (by omega)
   simp only[mkF]at f3
   have hv:QSf res=(u,(j:Int),0):=by rw[dB];simp[Qrf,f0,f1,f2,f3]
   have B1:Below w.heap.size w w2:=(HB.out.alloc Jf.out _).trans (HK.out.below (by have:=Jf.out;simp;omega) (fun i hi e=>by have:=Jf.out;omega))
   have B2:Below w.heap.size w wr:=B1.trans ((ck.out.trans Kd.out (fun _ _ e=>e)).below B1.size (fun _ _ e=>e))
   exact⟨res,gM,by rw[hv];rfl,B2.trans (Qaa.below (S:=fun _=>False) (Qda wr _) B2.size (fun _ _ e=>e))⟩
end Go.Proofs.YtofhcgbihonckaaGreat
