/- The reader of package expression: what a row of the table answers; what happens once the form is wrong. | The reader of package expression, once the form is wrong: level, whole. | The reader of package expression: operand. | The reader of package expression: the signs' functions by their numbers. | The reader of package expression: level. | The reader of package expression: whole. | The reader of package expression: all its methods, by the tokens that are left. | Package expression: read. | Package expression: read. | Expressions in plain Lean: climbing by ranks is the same as reading level by level. | Package expression: Primary (printed by gprim.py). | Package expression: Value. -/
import Derived.Test.YtofhcgbihonckaaGreatY9
import Derived.Deep.LoopGhost
import Derived.Laws.AppendOwn
import Derived.Laws.OwnMore
import Derived.BigRegion
set_option linter.all false
set_option maxHeartbeats 8000000
namespace Go.Proofs.YtofhcgbihonckaaGreat
open Go.Lib (hid)
open Go.RowKit
theorem Qko(k:Nat)(z:Value)(s:ByteArray):QPn (QZd (Q1b.getD k [])) z s=match Q7b k s with
 | none=>(z,false)
 | some f=>(fnT f,true):=by
 unfold QPn Q7b QZd
 rw[List.find?_map]
 have:((fun p:ByteArray × Value=>decide (p.1=s)) ∘ fun p:ByteArray × Nat=>(p.1,fnT p.2))=fun p:ByteArray × Nat=>decide (p.1=s):=rfl
 rw[this]
 cases (Q1b.getD k []).find? (fun p=>decide (p.1=s))with
 | none=>rfl
 | some p=>rfl
theorem QDk:∀k,k<10→((QZd (Q1b.getD k [])).map (·.1)).Nodup:=by
 intro k hk
 have:(QZd (Q1b.getD k [])).map (·.1)=(Q1b.getD k []).map (·.1):=by unfold QZd;rw[List.map_map];rfl
 rw[this]
 revert k
 decide
theorem QIe:∀k,k<10→Q7b k ⟨#[]⟩=none:=by decide
section
variable{w:World}{r:Nat}{L:List (Int × ByteArray × Int)}{i d:Nat}{syn dp gr dv:Bool}
theorem QLa.look(h:QLa w r L i d syn dp gr dv)(k:Nat)(hk:k<10)(s:ByteArray)(hs:s.size≤maxLen) :
 ∃g m z,w.cell? ⟨r,1,none⟩=some (.slice (some ⟨g,0,none⟩) 10 10)∧w.cell? ⟨g,k,none⟩=some (.map (some m))∧
  (Instr.lookup 195 (.map (some m)) (.string s) true).run Tryz.prog w = .ok (.tuple #[(match Q7b k s with|none=>z|some f=>fnT f),.bool (Q7b k s).isSome]) w:=by
 obtain⟨lv,g,bs,h1,_,⟨t1,t2,t3⟩,_⟩:=h
 have kA:k<bs.length:=by omega
 obtain⟨z,hz⟩:=(t3 k kA).look (QDk k hk) s hs
 rw[Qko]at hz
 refine⟨g,bs[k],z,h1.cell 1,?_,?_⟩
 ·rw[t1.cell k];simp[kA]
 ·rw[hz]
  cases Q7b k s <;> rfl
theorem Q7j(h:QLa w r L i d syn dp gr dv)(j:Nat):(Qwa L j).size≤maxLen:=by
 obtain⟨lv,g,bs,_,⟨a,c,_,Ge,_⟩,_⟩:=h
 unfold Qwa
 cases e:L[j]? with
 | none=>exact Nat.zero_le _
 | some t=>
  show ByteArray.size (if _ then _ else _)≤_
  split
  ·exact Ge t (List.mem_of_getElem? e)
  ·exact Nat.zero_le _
end
set_option maxRecDepth 100000 in
theorem Qtj(r:Nat)(L:List (Int × ByteArray × Int))(d i:Nat)(dp gr dv:Bool)(w:World)(h:QLa w r L i d true dp gr dv) :
 Calls Tryz.prog 155 #[.pointer (some ⟨r,0,none⟩)] w (Qud r L d w):=by
 have Hf:=Qjb r L i d true dp gr dv w h
 unfold Qeb at Hf
 rw[if_pos rfl]at Hf
 go_enter Tryz.func155,Tryz.ntmps155
 go_wp2_with fail
 refine Hf.mono ?_
 rintro e w1 ⟨rfl,Hz,Ht⟩
 obtain⟨c2,c3,c4,c5,c6,_,f2,f3,f4,f5,f6,_,rl,He,Hn,gv⟩:=Hz.cells
 have Gq:=hid Hz
 clear Hz
 go_wp2_with fail
 go_quiet (fail)
 go_wp2_with fail
 go_ret
 obtain⟨q1,m1⟩:=(Gq.out.keeps (Qda _ _)).put 4 (.bool true) (i':=i) (d':=d) (syn':=true) (dp':=dp) (gr':=gr) (dv':=dv) He gv (fun _ _=>rfl)
 exact⟨0,i,dp,gr,dv,rfl,by omega,by omega,q1,((QXa Ht).trans (QXa (Qda _ _)) (fun _ _ e=>e)).trans m1 (fun _ _ e=>e)⟩
set_option maxRecDepth 100000 in
theorem Qsj(r:Nat)(L:List (Int × ByteArray × Int))(d i:Nat)(dp gr dv:Bool)(w:World)(h:QLa w r L i d true dp gr dv) :
 Calls Tryz.prog 186 #[.pointer (some ⟨r,0,none⟩)] w (Qud r L d w):=by
 have Hf:=Qjb r L i d true dp gr dv w h
 unfold Qeb at Hf
 rw[if_pos rfl]at Hf
 go_enter Tryz.func186,Tryz.ntmps186
 go_wp2_with fail
 refine Hf.mono ?_
 rintro e w1 ⟨rfl,Hz,Ht⟩
 have Gq:=hid Hz
 clear Hz
 go_wp2_with fail
 go_loopg [3,4] 0 (fun f x y wr=>x = .slice none 0 0∧y = .string ⟨#[]⟩∧w1=wr)
 case atStart=>exact⟨rfl,rfl,rfl⟩
 case round=>
  obtain⟨rfl,rfl,rfl⟩:=hrel
  go_wp2_with fail
  refine(Qtj r L d i dp gr dv w1 Gq.out).mono ?_
  rintro e w2 ⟨v,j,p,g,q,rfl,k8,GZ,gG,Ho⟩
  go_wp2_with fail
  go_loopg [5,6] 0 (fun f x y wr=>x = .int .u32 v∧y = .int .i64 (-1)∧w2=wr)
  case atStart=>exact⟨rfl,rfl,rfl⟩
  case round=>
   obtain⟨rfl,rfl,rfl⟩:=hrel
   go_wp2_with fail
   go_ret
   exact⟨v,j,p,g,q,rfl,k8,GZ,gG,(QXa Ht).trans Ho (fun _ _ e=>e)⟩
set_option maxRecDepth 100000 in
theorem QIk(r:Nat)(L:List (Int × ByteArray × Int))(d i:Nat)(dp gr dv:Bool)(w:World)(h:QLa w r L i d true dp gr dv) :
 Calls Tryz.prog 183 #[.pointer (some ⟨r,0,none⟩),.int .i64 (-1)] w (Qud r L d w):=by
 have ho:=Qsj r L d i dp gr dv w h
 unfold Qud at ho
 go_enter Tryz.func183,Tryz.ntmps183
 go_wp2_with fail
 refine ho.mono ?_
 rintro e w2 ⟨v,j,p,g,q,rfl,k8,GZ,gG,Ho⟩
 go_wp2_with fail
 go_ret
 exact⟨v,j,p,g,q,rfl,k8,GZ,gG,Ho⟩
set_option maxRecDepth 100000 in
theorem Qpm(r:Nat)(L:List (Int × ByteArray × Int))(d:Nat):∀(k:Nat),k≤10→∀(i:Nat) (dp gr dv:Bool) (w:World),QLa w r L i d true dp gr dv→
 Calls Tryz.prog 183 #[.pointer (some ⟨r,0,none⟩),.int .i64 ((k:Int)-1)] w (Qud r L d w):=by
 intro k
 induction k with
 | zero=>intro _ i dp gr dv w h;exact QIk r L d i dp gr dv w h
 | succ k ih=>
  intro hk i dp gr dv w h
  have ho:=ih (by omega) i dp gr dv w h
  unfold Qud at ho
  rw[show(((k+1:Nat):Int)-1)=(k:Int)from by omega]
  have Ht:¬((k:Int)<0):=by omega
  have Ho:IntKind.i64.wrap ((k:Int)-1)=(k:Int)-1:=IntWalk.i64_in _ (by omega)
  have HK:=hid hk
  clear ih hk
  go_enter Tryz.func183,Tryz.ntmps183
  go_wp2_with fail
  refine ho.mono ?_
  rintro e w1 ⟨v,j,p,g,q,rfl,k8,GZ,Hz,MD⟩
  go_wp2_with fail
  go_loopg [5] 0 (fun f x wr=>x = .int .u32 v∧w1=wr)
  case atStart=>exact⟨rfl,rfl⟩
  case round=>
   obtain⟨rfl,rfl⟩:=hrel
   have Hf:=Qjb r L j d true p g q w1 Hz
   unfold Qeb at Hf
   rw[if_pos rfl]at Hf
   go_wp2_with fail
   refine Hf.mono ?_
   rintro e w2 ⟨rfl,gG,kF⟩
   obtain⟨gt,m,z,c1,cm,hl⟩:=gG.look k (by have:=HK.out;omega) ⟨#[]⟩ (Nat.zero_le _)
   rw[QIe k (by have:=HK.out;omega)]at hl
   simp only[Option.isSome_none]at hl
   have mf:(0:Int)≤(k:Int):=by omega
   have GP:(k:Int)<10:=by have:=HK.out;omega
   have fD:((k:Int)).toNat=k:=by omega
   have M9:=hid gG
   have rl:=gG.cells.2.2.2.2.2.2.2.2.2.2.2.2.1
   clear gG
   go_wp2_with fail
   go_ret
   exact⟨v,j,p,g,q,rfl,k8,GZ,M9.out,MD.trans (QXa kF) (fun _ _ e=>e)⟩
theorem QJk(r:Nat)(L:List (Int × ByteArray × Int))(d i:Nat)(dp gr dv:Bool)(w:World)(h:QLa w r L i d true dp gr dv) :
 Calls Tryz.prog 183 #[.pointer (some ⟨r,0,none⟩),.int .i64 9] w (Qud r L d w):=Qpm r L d 10 (Nat.le_refl _) i dp gr dv w h
set_option maxRecDepth 100000 in
theorem Qyi(r:Nat)(L:List (Int × ByteArray × Int))(d i:Nat)(dp gr dv:Bool)(w:World)(h:QLa w r L i d true dp gr dv) :
 Calls Tryz.prog 161 #[.pointer (some ⟨r,0,none⟩)] w (Qud r L d w):=by
 have ho:=QJk r L d i dp gr dv w h
 unfold Qud at ho
 obtain⟨gt,m,z,c1,cm,hl⟩:=h.look 0 (by omega) ⟨#[]⟩ (Nat.zero_le _)
 have rl:=h.cells.2.2.2.2.2.2.2.2.2.2.2.2.1
 clear h cm hl
 go_enter Tryz.func161,Tryz.ntmps161
 go_wp2_with fail
 refine ho.mono ?_
 rintro e w1 ⟨v,j,p,g,q,rfl,k8,GZ,Hz,MD⟩
 have Hf:=Qjb r L j d true p g q w1 Hz
 unfold Qeb at Hf
 rw[if_pos rfl]at Hf
 go_wp2_with fail
 refine Hf.mono ?_
 rintro e w2 ⟨rfl,gG,kF⟩
 go_wp2_with fail
 go_ret
 exact⟨v,j,p,g,q,rfl,k8,GZ,gG,MD.trans (QXa kF) (fun _ _ e=>e)⟩
theorem Qno:(Tryz.prog.info? 9).map (fun i=>(i.zero,i.size,i.bytes))=some (some (.string ⟨#[]⟩),1,16):=by kernel_rfl
theorem Qzj(u:Int)(h0:0≤u)(h1:u≤4294967295):bits .xor .u32 IntKind.u32.max u=4294967295-u:=by
 show IntKind.u32.wrap ((((BitVec.ofInt 32 (4294967295:Int)) ^^^ (BitVec.ofInt 32 u)).toNat:Nat):Int)=_
 rw[show BitVec.ofInt 32 (4294967295:Int)=BitVec.allOnes 32 from by decide,BitVec.allOnes_xor,BitVec.toNat_not,BitVec.toNat_ofInt]
 have e:(u % ((2 ^ 32:Nat):Int)).toNat=u.toNat:=by rw[Int.emod_eq_of_lt h0 (by omega)]
 rw[e]
 have:IntKind.u32.wrap ((2 ^ 32-1-u.toNat:Nat):Int)=((2 ^ 32-1-u.toNat:Nat):Int) % 4294967296:=rfl
 rw[this];omega
theorem Qxi{w:World}{base:Nat}{e:TypeId}{size:Nat}{v:Value}{n:Nat}{xs:List Value}(h:w.ownsRow base e size v n xs):∃a c,v = .slice a n c:=by
 rcases h.2 with⟨e,h0⟩|⟨g,cap,cur,e,_⟩
 ·subst h0;exact⟨none,0,e⟩
 ·exact⟨_,_,e⟩
def Q7i(S:List ByteArray)(v:Int):Int:=S.foldr unT v
theorem QMh{s:ByteArray}(h:unB s=true):s=⟨#[45]⟩∨s=⟨#[126]⟩∨s=⟨#[33]⟩:=by
 unfold unB at h
 simp only[Bool.or_eq_true,decide_eq_true_eq]at h
 rcases h with(h|h) | h
 ·exact .inl h
 ·exact .inr (.inl h)
 ·exact .inr (.inr h)
theorem QXp{s:ByteArray}(h:¬unB s=true):(s.toList == [45])=false∧(s.toList == [126])=false∧(s.toList == [33])=false:=by
 refine⟨?_,?_,?_⟩
 all_goals
  rw[beq_eq_false_iff_ne];intro e;apply h;rw[Q3b e];decide
theorem QFi(s:ByteArray)(v:Int)(h0:0≤v)(h1:v≤4294967295):0≤unT s v∧unT s v≤4294967295:=by
 unfold unT
 split
 ·omega
 ·split
  ·omega
  ·unfold Qvc;split <;> omega
theorem Q7c(S:List ByteArray)(v:Int)(h0:0≤v)(h1:v≤4294967295):0≤Q7i S v∧Q7i S v≤4294967295:=by
 induction S with
 | nil=>exact⟨h0,h1⟩
 | cons s t ih=>exact QFi s _ ih.1 ih.2
theorem Q5m(S:List ByteArray)(v:Int)(m:Nat)(h:m<S.length):Q7i (S.drop m) v=unT S[m] (Q7i (S.drop (m+1)) v):=by
 rw[List.drop_eq_getElem_cons h];rfl
theorem Q6m(S:List ByteArray)(s:ByteArray)(v:Int):Q7i (S++[s]) v=Q7i S (unT s v):=by
 unfold Q7i;rw[List.foldr_append];rfl
theorem QLa.of{w w':World}{r:Nat}{L:List (Int × ByteArray × Int)}{lv:Value}{g:Nat}{bs:List Nat}{i d:Nat}{syn dp gr dv:Bool}(h1:QEf (fun x=>x≠r) w lv L)(h2:QPe w g bs)(h3:g≠r)(h4:∀b∈bs,b≠r)
 (hL:L.length≤1000000000) (k:Qaa (fun b=>b=r) w w') (hH:Qca w' r #[lv,.slice (some ⟨g,0,none⟩) 10 10,.int .i64 i,.int .i64 d,.bool syn,.bool dp,.bool gr,.bool dv] 190) (hi:i≤L.length) (hd:d≤i):QLa w' r L i d syn dp gr dv:=
 ⟨lv,g,bs,hH,h1.keeps k (fun _ hg e=>hg e),h2.keeps k h3 h4,h3,h4,hi,hL,hd⟩
theorem QZo{L:List (Int × ByteArray × Int)}{d i:Nat}{r:Option (Int × Nat × Bool × Bool × Bool)}(hs:¬unB (Qwa L i)=true)(h:Rd L .prim d i r):Rd L .opnd d i r:=Qyh (by simpa using hs) h
theorem QNb.val{r:Nat}{L:List (Int × ByteArray × Int)}{W:Wh}{d i:Nat}{dp gr dv:Bool}{w w':World}{e:Ending}(h:QNb r L W d i dp gr dv w e w'):∃v:Int,e = .returned (.int .u32 v)∧0≤v∧v≤4294967295∧Qaa (fun b=>b=r) w w':=by
 rcases h with⟨v,j,p,g,q,_,e,h0,h1,_,_,_,k⟩|⟨_,v,j,p,g,q,e,h0,h1,_,k⟩
 ·exact⟨v,e,h0,h1,k⟩
 ·exact⟨v,e,h0,h1,k⟩
theorem QNb.ops{r:Nat}{L:List (Int × ByteArray × Int)}{d i j:Nat}{dp gr dv:Bool}{w w1 w2 w':World}{v:Int}{S:List ByteArray}(h:QNb r L .prim d j dp gr dv w1 (.returned (.int .u32 v)) w2)
 (hb:∀res,Rd L .prim d j res→Rd L .opnd d i (res.map fun q=>(Q7i S q.1,q.2))) (GH:i≤j) (k:Qaa (fun b=>b=r) w w1) (k2:Qaa (fun _=>False) w2 w'):QNb r L .opnd d i dp gr dv w (.returned (.int .u32 (Q7i S v))) w':=by
 rcases h with⟨u,m,p,g,q,hr,e,h0,h1,hj,hm,ha,kk⟩|⟨hr,u,m,p,g,q,e,h0,h1,ha,kk⟩
 ·obtain rfl:v=u:=by injection e with e;injection e
  exact .inl ⟨_,m,p,g,q,hb _ hr,rfl,(Q7c S v h0 h1).1,(Q7c S v h0 h1).2,by omega,hm,ha.keeps k2,(k.trans kk (fun _ _ e=>e)).trans (QXa k2) (fun _ _ e=>e)⟩
 ·obtain rfl:v=u:=by injection e with e;injection e
  exact .inr ⟨hb _ hr,_,m,p,g,q,rfl,(Q7c S v h0 h1).1,(Q7c S v h0 h1).2,ha.keeps k2,(k.trans kk (fun _ _ e=>e)).trans (QXa k2) (fun _ _ e=>e)⟩
set_option maxRecDepth 100000 in
theorem QRf(r:Nat)(L:List (Int × ByteArray × Int))(d i0:Nat)(dp gr dv:Bool)(w:World)(h:QLa w r L i0 d false dp gr dv)
 (hP:∀j,i0≤j→∀w,QLa w r L j d false dp gr dv→Calls Tryz.prog 155 #[.pointer (some ⟨r,0,none⟩)] w (QNb r L .prim d j dp gr dv w)) :
 Calls Tryz.prog 186 #[.pointer (some ⟨r,0,none⟩)] w (QNb r L .opnd d i0 dp gr dv w):=by
 have Hf:=Qjb r L i0 d false dp gr dv w h
 unfold Qeb at Hf
 simp only[Bool.false_eq_true,if_false]at Hf
 have HP:=hid hP;clear hP
 obtain⟨lv,g,bs,hH,t1,t2,t3,t4,t5,t6,t7⟩:=h
 have rH:∀(w':World) (i:Nat),Qaa (fun b=>b=r) w w'→Qca w' r #[lv,.slice (some ⟨g,0,none⟩) 10 10,.int .i64 i,.int .i64 d,.bool false,.bool dp,.bool gr,.bool dv] 190→i≤L.length→d≤i→QLa w' r L i d false dp gr dv:=fun w' i k hh hi hd=>QLa.of t1 t2 t3 t4 t6 k hh hi hd
 have aQ:=hid rH
 have Jv:=hH.lt
 clear t1 t2 t3 t4 rH
 go_enter Tryz.func186,Tryz.ntmps186
 go_wp2_with fail
 refine Hf.mono ?_
 rintro e w1 ⟨rfl,_,Ht⟩
 have G1:=hH.keeps Ht (fun e=>e)
 go_wp2_with fail
 go_loopg [3,4] (L.length-i0) (fun f x y wr=>∃(S:List ByteArray) (i:Nat),y = .string (Qwa L i)∧wr.ownsRow w.heap.size 9 1 x S.length (S.map .string)∧Hid (∀s∈S,unB s=true)∧
  Hid (∀res,Rd L .opnd d i res→Rd L .opnd d i0 (res.map fun q=>(Q7i S q.1,q.2)))∧Qca wr r #[lv,.slice (some ⟨g,0,none⟩) 10 10,.int .i64 i,.int .i64 d,.bool false,.bool dp,.bool gr,.bool dv] 190∧Qaa (fun b=>b=r) w wr∧Hid (S.length+i0=i)∧i≤L.length∧L.length≤i+f)
 case atStart=>exact⟨[],i0,rfl,World.ownsRow_nil _ _ _ _,hid (by simp),hid (fun res hr=>by cases res <;> exact hr),G1,QXa Ht,hid (by simp),by omega,by omega⟩
 case round=>
  obtain⟨S,i,rfl,Hl,hU,hB,cg,cz,iO,GV,kU⟩:=hrel
  have kc:=cz.size
  by_cases hu:unB (Qwa L i)=true
  ·have mQ:i+1≤L.length:=QQc (by intro e;rw[e]at hu;exact absurd hu (by decide))
   have kp:∀res,Rd L .opnd d (i+1) res→Rd L .opnd d i0 (res.map fun q=>(Q7i (S++[Qwa L i]) q.1,q.2)):=by
    intro res hr
    have:=hB.out _ (Q0o hu hr)
    cases res with
    | none=>exact this
    | some q=>rw[Option.map_some,Q6m];exact this
   have rS:∀s∈S++[Qwa L i],unB s=true:=by
    intro s hs
    rcases List.mem_append.1 hs with hs|hs
    ·exact hU.out s hs
    ·simp only[List.mem_singleton]at hs;rw[hs];exact hu
   have GI:=hid kp
   have fj:=hid rS
   clear kp rS hB hU
   have pA:=iO.out
   have mh:S.length≤1000000000:=by omega
   have pK:d≤i:=by omega
   clear pA
   have c2:=cg.cell 2
   have f2:=cg.free 2
   obtain⟨y0,hi,GL,GM,GN⟩:=info_parts Qno
   obtain⟨ao,co,rfl⟩:∃a c,u3 = .slice a S.length c:=Qxi Hl
   rcases QMh hu with hs|hs|hs
   ·rw[hs]at GI fj
    have HS:=hid hs
    rw[hs]
    clear hs hu
    go_wp2_with (at_builtin;refine wpList_append_own _ rfl _ _ 39 rfl w.heap.size 9 y0 (.string ⟨#[]⟩) 1 16 Tryz.underlying39 hi GL GM GN rfl (by decide) _ _ _ rfl (by exact World.ownsRow.alloc Hl _) ⟨wr.heap.size,0,none⟩ 1 1 [.string ⟨#[45]⟩] rfl rfl ?a1 ?a2 ?a3 ?a4 ?a5 ?_)
    case a1=>exact Qlb _ _ _ _ rfl _ rfl
    case a2=>intro u hu;simp at hu;rcases hu with rfl;rfl
    case a3=>unfold maxLen;omega
    case a4=>omega
    case a5=>simp;omega
    intro v' w3 Hp Ha _
    have Hc:Qaa (fun b=>b=r) w w3:=(cz.alloc _).grown Ha (fun g hg=>.inl (Hl.lt g hg).1)
    have ko:Qaa (fun b=>w.heap.size≤b) wr w3:=((Qaa.refl _ wr).alloc _).grown Ha (fun g hg=>.inr (Hl.lt g hg).1)
    have ky:=cg.keeps ko (by omega)
    have c3:=ky.cell 2
    have f3:=ky.free 2
    have l3:=ky.lt
    have KY:=ky.set 2 (.int .i64 ((i:Int)+1))
    have Hr:=Hc.setCell (p:=⟨r,2,none⟩) (.inr rfl) (.int .i64 ((i:Int)+1))
    have mI:=Qjb r L (i+1) d false dp gr dv _ (aQ.out _ (i+1) Hr (by rw[show(((i+1:Nat)):Int)=(i:Int)+1 from by omega];exact KY) mQ (by omega))
    unfold Qeb at mI
    simp only[Bool.false_eq_true,if_false]at mI
    have g8:=ownsRow_setCell_below Hp (a:=⟨r,2,none⟩) Jv (.int .i64 ((i:Int)+1))
    have Gj:=hid g8
    have fT:=hid KY
    have gN:=hid Hr
    clear Ha Hp g8 KY Hr ky ko Hc
    go_wp2_with fail
    refine mI.mono ?_
    rintro e w5 ⟨rfl,_,Hs⟩
    go_wp2_with fail
    go_roundg (gk-1)
    case measure=>omega
    case rel=>
     refine⟨S++[⟨#[45]⟩],i+1,rfl,?_,fj,GI,?_,gN.out.trans (QXa Hs) (fun _ _ e=>e),hid ?_,mQ,by omega⟩
     ·have:=Qba Gj.out Hs (fun _ _ e=>e)
      rw[List.length_append,List.map_append];exact this
     ·rw[show(((i+1:Nat)):Int)=(i:Int)+1 from by omega];exact fT.out.keeps Hs (fun e=>e)
     ·show _=_
      rw[List.length_append,←iO.out];simp;omega
   ·rw[hs]at GI fj
    have HS:=hid hs
    rw[hs]
    clear hs hu
    go_wp2_with (at_builtin;refine wpList_append_own _ rfl _ _ 39 rfl w.heap.size 9 y0 (.string ⟨#[]⟩) 1 16 Tryz.underlying39 hi GL GM GN rfl (by decide) _ _ _ rfl (by exact World.ownsRow.alloc Hl _) ⟨wr.heap.size,0,none⟩ 1 1 [.string ⟨#[126]⟩] rfl rfl ?b1 ?b2 ?b3 ?b4 ?b5 ?_)
    case b1=>exact Qlb _ _ _ _ rfl _ rfl
    case b2=>intro u hu;simp at hu;rcases hu with rfl;rfl
    case b3=>unfold maxLen;omega
    case b4=>omega
    case b5=>simp;omega
    intro v' w3 Hp Ha _
    have Hc:Qaa (fun b=>b=r) w w3:=(cz.alloc _).grown Ha (fun g hg=>.inl (Hl.lt g hg).1)
    have ko:Qaa (fun b=>w.heap.size≤b) wr w3:=((Qaa.refl _ wr).alloc _).grown Ha (fun g hg=>.inr (Hl.lt g hg).1)
    have ky:=cg.keeps ko (by omega)
    have c3:=ky.cell 2
    have f3:=ky.free 2
    have l3:=ky.lt
    have KY:=ky.set 2 (.int .i64 ((i:Int)+1))
    have Hr:=Hc.setCell (p:=⟨r,2,none⟩) (.inr rfl) (.int .i64 ((i:Int)+1))
    have mI:=Qjb r L (i+1) d false dp gr dv _ (aQ.out _ (i+1) Hr (by rw[show(((i+1:Nat)):Int)=(i:Int)+1 from by omega];exact KY) mQ (by omega))
    unfold Qeb at mI
    simp only[Bool.false_eq_true,if_false]at mI
    have g8:=ownsRow_setCell_below Hp (a:=⟨r,2,none⟩) Jv (.int .i64 ((i:Int)+1))
    have Gj:=hid g8
    have fT:=hid KY
    have gN:=hid Hr
    clear Ha Hp g8 KY Hr ky ko Hc
    go_wp2_with fail
    refine mI.mono ?_
    rintro e w5 ⟨rfl,_,Hs⟩
    go_wp2_with fail
    go_roundg (gk-1)
    case measure=>omega
    case rel=>
     refine⟨S++[⟨#[126]⟩],i+1,rfl,?_,fj,GI,?_,gN.out.trans (QXa Hs) (fun _ _ e=>e),hid ?_,mQ,by omega⟩
     ·have:=Qba Gj.out Hs (fun _ _ e=>e)
      rw[List.length_append,List.map_append];exact this
     ·rw[show(((i+1:Nat)):Int)=(i:Int)+1 from by omega];exact fT.out.keeps Hs (fun e=>e)
     ·show _=_
      rw[List.length_append,←iO.out];simp;omega
   ·rw[hs]at GI fj
    have HS:=hid hs
    rw[hs]
    clear hs hu
    go_wp2_with (at_builtin;refine wpList_append_own _ rfl _ _ 39 rfl w.heap.size 9 y0 (.string ⟨#[]⟩) 1 16 Tryz.underlying39 hi GL GM GN rfl (by decide) _ _ _ rfl (by exact World.ownsRow.alloc Hl _) ⟨wr.heap.size,0,none⟩ 1 1 [.string ⟨#[33]⟩] rfl rfl ?c1 ?c2 ?c3 ?c4 ?c5 ?_)
    case c1=>exact Qlb _ _ _ _ rfl _ rfl
    case c2=>intro u hu;simp at hu;rcases hu with rfl;rfl
    case c3=>unfold maxLen;omega
    case c4=>omega
    case c5=>simp;omega
    intro v' w3 Hp Ha _
    have Hc:Qaa (fun b=>b=r) w w3:=(cz.alloc _).grown Ha (fun g hg=>.inl (Hl.lt g hg).1)
    have ko:Qaa (fun b=>w.heap.size≤b) wr w3:=((Qaa.refl _ wr).alloc _).grown Ha (fun g hg=>.inr (Hl.lt g hg).1)
    have ky:=cg.keeps ko (by omega)
    have c3:=ky.cell 2
    have f3:=ky.free 2
    have l3:=ky.lt
    have KY:=ky.set 2 (.int .i64 ((i:Int)+1))
    have Hr:=Hc.setCell (p:=⟨r,2,none⟩) (.inr rfl) (.int .i64 ((i:Int)+1))
    have mI:=Qjb r L (i+1) d false dp gr dv _ (aQ.out _ (i+1) Hr (by rw[show(((i+1:Nat)):Int)=(i:Int)+1 from by omega];exact KY) mQ (by omega))
    unfold Qeb at mI
    simp only[Bool.false_eq_true,if_false]at mI
    have g8:=ownsRow_setCell_below Hp (a:=⟨r,2,none⟩) Jv (.int .i64 ((i:Int)+1))
    have Gj:=hid g8
    have fT:=hid KY
    have gN:=hid Hr
    clear Ha Hp g8 KY Hr ky ko Hc
    go_wp2_with fail
    refine mI.mono ?_
    rintro e w5 ⟨rfl,_,Hs⟩
    go_wp2_with fail
    go_roundg (gk-1)
    case measure=>omega
    case rel=>
     refine⟨S++[⟨#[33]⟩],i+1,rfl,?_,fj,GI,?_,gN.out.trans (QXa Hs) (fun _ _ e=>e),hid ?_,mQ,by omega⟩
     ·have:=Qba Gj.out Hs (fun _ _ e=>e)
      rw[List.length_append,List.map_append];exact this
     ·rw[show(((i+1:Nat)):Int)=(i:Int)+1 from by omega];exact fT.out.keeps Hs (fun e=>e)
     ·show _=_
      rw[List.length_append,←iO.out];simp;omega
  ·obtain⟨n1,n2,n3⟩:=QXp hu
   have kp:∀res,Rd L .prim d i res→Rd L .opnd d i0 (res.map fun q=>(Q7i S q.1,q.2)):=fun res hr=>hB.out res (QZo hu hr)
   have GI:=hid kp
   have pA:=iO.out
   have si:i0≤i:=by omega
   have mh:S.length≤1000000000:=by omega
   have Jg:=HP.out i si wr (aQ.out wr i cz cg GV (by omega))
   clear kp hB pA hu
   generalize Qwa L i=t at *
   obtain⟨ao2,co,rfl⟩:∃a c,u3 = .slice a S.length c:=Qxi Hl
   go_wp2_with fail
   refine Jg.mono ?_
   rintro e w2 GK
   obtain⟨v,rfl,k8,GZ,Ho⟩:=GK.val
   have mp:=hid GK
   have Hb:=Qba Hl Ho (fun b hb e=>by have:=(Hl.lt b hb).1;omega)
   have hlI:IntKind.i64.wrap ((S.length:Int)-1)=(S.length:Int)-1:=IntWalk.i64_in _ (by omega)
   clear GK Hl Jg
   go_wp2_with fail
   obtain⟨wo,rfl⟩:∃x:World,x=wr:=⟨_,rfl⟩
   obtain⟨go,rfl⟩:∃x:Nat,x=gk:=⟨_,rfl⟩
   go_loopg [5,6] S.length (fun f x y wr=>∃m:Nat,m=f∧m≤S.length∧x = .int .u32 (Q7i (S.drop m) v)∧y = .int .i64 ((m:Int)-1)∧w2=wr)
   case atStart=>exact⟨S.length,rfl,Nat.le_refl _,by rw[List.drop_of_length_le (Nat.le_refl _)];rfl,rfl,rfl⟩
   case round=>
    obtain⟨m,rfl,hm,rfl,rfl,rfl⟩:=hrel
    cases m with
    | zero=>
     rw[List.drop_zero]
     generalize hz:Q7i S v=z
     go_wp2_with fail
     go_ret
     rw[←hz]
     exact mp.out.ops GI.out si cz (Qaa.refl _ _)
    | succ m=>
     rw[show(((m+1:Nat):Int)-1)=(m:Int)from by omega]
     have hm':m<S.length:=by omega
     have sF:=Q7c (S.drop (m+1)) v k8 GZ
     have nR:=hU.out S[m] (List.getElem_mem hm')
     have Mi:=Q5m S v m hm'
     obtain⟨gs,bV,eK⟩:∃gs:Nat,ao2=some ⟨gs,0,none⟩∧w2.cell? ⟨gs,m,none⟩=some (.string S[m]):=by
      rcases Hb.2 with⟨_,h0⟩|⟨gs,cap,cur,e,_⟩
      ·omega
      ·cases e
       refine⟨gs,rfl,?_⟩
       rw[Hb.cellAt m (by omega)];simp[hm']
     subst bV
     have bt:=hid Mi
     have kN:=hid Hb
     clear Mi Hb
     generalize Q7i (S.drop (m+1)) v=u at *
     have lG:(m:Int)<(S.length:Int):=by omega
     have bM:IntKind.i64.wrap ((m:Int)-1)=(m:Int)-1:=IntWalk.i64_in _ (by omega)
     rcases QMh nR with hs|hs|hs
     ·rw[hs]at eK
      have HS:=hid hs
      clear hs nR
      go_wp2_with fail
      go_roundg m
      case measure=>omega
      case rel=>exact⟨m,rfl,by omega,by rw[bt.out,HS.out];rfl,rfl,rfl⟩
     ·rw[hs]at eK
      have HS:=hid hs
      clear hs nR
      go_wp2_with fail
      go_roundg m
      case measure=>omega
      case rel=>exact⟨m,rfl,by omega,by rw[bt.out,HS.out,Qzj u sF.1 sF.2];rfl,rfl,rfl⟩
     ·rw[hs]at eK
      have HS:=hid hs
      clear hs nR
      go_wp2_with fail
      refine(Qid _ _).mono ?_
      rintro e w' ⟨rfl,rfl⟩
      go_wp2_with fail
      go_roundg m
      case measure=>omega
      case rel=>exact⟨m,rfl,by omega,by rw[bt.out,HS.out];rfl,rfl,rfl⟩
theorem QHn(x:Int):0≤IntKind.u32.wrap x∧IntKind.u32.wrap x≤4294967295:=by
 have:IntKind.u32.wrap x=x % 4294967296:=rfl
 rw[this];omega
theorem Qek(h:Bool):0≤Qvc h∧Qvc h≤4294967295:=by unfold Qvc;split <;> omega
theorem QEa(f:Nat)(a b:Int)(ha:0≤a)(Hv:a≤4294967295)(hb:0≤b)(He:b≤4294967295):0≤QPb f a b∧QPb f a b≤4294967295:=by
 have hd:0≤a / b∧a / b≤4294967295:=by
  refine⟨Int.ediv_nonneg ha hb,?_⟩
  have:=Int.ediv_le_self b ha;omega
 have hm:0≤a % b∧a % b≤4294967295:=by
  by_cases h:b=0
  ·subst h;rw[Int.emod_zero];exact⟨ha,Hv⟩
  ·have h1:=Int.emod_nonneg a h
   have h2:=Int.emod_lt_of_pos a (show 0<b by omega)
   omega
 have hs:0≤a / 2 ^ min b.toNat 32∧a / 2 ^ min b.toNat 32≤4294967295:=by
  have h2:(0:Int)≤2 ^ min b.toNat 32:=Int.pow_nonneg (by omega)
  refine⟨Int.ediv_nonneg ha h2,?_⟩
  have:=Int.ediv_le_self (2 ^ min b.toNat 32) ha;omega
 unfold QPb
 split
 any_goals exact Qek _
 any_goals exact QHn _
 any_goals assumption
 any_goals omega
theorem QCm(f:Nat)(h1:1≤f)(h2:f≤18):∃n,fnT f = .func (.func n) #[] #[]∧(∀(args:Array Value) (w:World),Sem.run Tryz.prog (callFunc n args) w = .ok (.enter n args) w)∧∀(a b:Int) (w:World),0≤a→a≤4294967295→0≤b→b≤4294967295→((f=2∨f=3)→1≤b)→
 Calls Tryz.prog n #[.int .u32 a,.int .u32 b] w (Qsb f a b w):=by
 match f,h1,h2 with
 | 1,_,_=>exact⟨_,rfl,by intro args w;kernel_rfl,fun a b w ha Hv hb He _=>Qpp a b w ha Hv hb He⟩
 | 2,_,_=>exact⟨_,rfl,by intro args w;kernel_rfl,fun a b w ha Hv hb He h=>Qqp a b w ha Hv (h (by simp)) He⟩
 | 3,_,_=>exact⟨_,rfl,by intro args w;kernel_rfl,fun a b w ha Hv hb He h=>Qrp a b w ha Hv (h (by simp)) He⟩
 | 4,_,_=>exact⟨_,rfl,by intro args w;kernel_rfl,fun a b w ha Hv hb He _=>Qsp a b w ha Hv hb He⟩
 | 5,_,_=>exact⟨_,rfl,by intro args w;kernel_rfl,fun a b w ha Hv hb He _=>Qtp a b w ha Hv hb He⟩
 | 6,_,_=>exact⟨_,rfl,by intro args w;kernel_rfl,fun a b w ha Hv hb He _=>Qup a b w ha Hv hb He⟩
 | 7,_,_=>exact⟨_,rfl,by intro args w;kernel_rfl,fun a b w ha Hv hb He _=>Qvp a b w ha Hv hb He⟩
 | 8,_,_=>exact⟨_,rfl,by intro args w;kernel_rfl,fun a b w ha Hv hb He _=>Qwp a b w ha Hv hb He⟩
 | 9,_,_=>exact⟨_,rfl,by intro args w;kernel_rfl,fun a b w ha Hv hb He _=>Qxp a b w ha Hv hb He⟩
 | 10,_,_=>exact⟨_,rfl,by intro args w;kernel_rfl,fun a b w ha Hv hb He _=>Qbo a b w ha Hv hb He⟩
 | 11,_,_=>exact⟨_,rfl,by intro args w;kernel_rfl,fun a b w ha Hv hb He _=>Qco a b w ha Hv hb He⟩
 | 12,_,_=>exact⟨_,rfl,by intro args w;kernel_rfl,fun a b w ha Hv hb He _=>Qdo a b w ha Hv hb He⟩
 | 13,_,_=>exact⟨_,rfl,by intro args w;kernel_rfl,fun a b w ha Hv hb He _=>Qeo a b w ha Hv hb He⟩
 | 14,_,_=>exact⟨_,rfl,by intro args w;kernel_rfl,fun a b w ha Hv hb He _=>Qfo a b w ha Hv hb He⟩
 | 15,_,_=>exact⟨_,rfl,by intro args w;kernel_rfl,fun a b w ha Hv hb He _=>Qgo a b w ha Hv hb He⟩
 | 16,_,_=>exact⟨_,rfl,by intro args w;kernel_rfl,fun a b w ha Hv hb He _=>Qho a b w ha Hv hb He⟩
 | 17,_,_=>exact⟨_,rfl,by intro args w;kernel_rfl,fun a b w ha Hv hb He _=>Qio a b w ha Hv hb He⟩
 | 18,_,_=>exact⟨_,rfl,by intro args w;kernel_rfl,fun a b w ha Hv hb He _=>Qjo a b w ha Hv hb He⟩
 | _+19,_,h=>exact absurd h (by omega)
theorem Q7l:∀k,k<10→∀p∈Q1b.getD k [],1≤p.2∧p.2≤18∧(p.2=2↔p.1=⟨#[47]⟩)∧(p.2=3↔p.1=⟨#[37]⟩):=by decide
theorem QUg{k:Nat}(hk:k<10){s:ByteArray}{f:Nat}(h:Q7b k s=some f):1≤f∧f≤18∧(f=2↔s=⟨#[47]⟩)∧(f=3↔s=⟨#[37]⟩):=by
 unfold Q7b at h
 obtain⟨p,hp,e⟩:=Option.map_eq_some_iff.1 h
 have h1:=List.mem_of_find?_eq_some hp
 have h2:=List.find?_some hp
 simp only[decide_eq_true_eq]at h2
 rw[←h2,←e]
 exact Q7l k hk p h1
theorem QHl(a b c:Bool × Bool × Bool):orF (orF a b) c=orF a (orF b c):=by simp[orF,Bool.or_assoc]
theorem Qvf{r:Nat}{L:List (Int × ByteArray × Int)}{k d i0 i f:Nat}{u v:Int}{dp gr dv p g q:Bool}{w2 w3 w4:World}(hi:i0<i)(Hb:Q7b k (Qwa L i)=some f)
 (hB:∀res,Rd L (.loop k v) d i res→Rd L (.lvl (k+1)) d i0 (res.map fun y=>(y.1,y.2.1,orF (p,g,q) y.2.2)))
 (hw:∀(j:Nat) (syn dp gr dv:Bool),QLa w3 r L j d syn dp gr dv→QLa w4 r L j d syn dp gr (dv || Qdb f u))
 (h:QNb r L (.lvl k) d (i+1) (dp || p) (gr || g) (dv || q) w2 (.returned (.int .u32 u)) w3) :
 (∃(i':Nat) (p g q:Bool),i<i'∧i'≤L.length∧QLa w4 r L i' d false (dp || p) (gr || g) (dv || q)∧Hid (∀res,Rd L (.loop k (QPb f v (if Qdb f u=true then 1 else u))) d i' res→Rd L (.lvl (k+1)) d i0 (res.map fun y=>(y.1,y.2.1,orF (p,g,q) y.2.2))))∨
  (Hid (Rd L (.lvl (k+1)) d i0 none)∧∃(i:Nat) (p g q:Bool),QLa w4 r L i d true p g q):=by
 rcases h with⟨u',j,p2,g2,q2,gz,e,_,_,hj,hm,ha,_⟩|⟨gz,u',j,p2,g2,q2,e,_,_,ha,_⟩
 ·obtain rfl:u=u':=by injection e with e;injection e
  refine .inl ⟨j,p || p2,g || g2,q || q2 || Qdb f u,by omega,hm,?_,hid ?_⟩
  ·have:=hw _ _ _ _ _ ha
   simpa[Bool.or_assoc]using this
  ·intro res hr
   have:=hB _ (Qxh Hb gz hr)
   cases res with
   | none=>exact this
   | some y=>
    simp only[Option.map_some]at this ⊢
    simpa[orF,Bool.or_assoc]using this
 ·obtain rfl:u=u':=by injection e with e;injection e
  exact .inr ⟨hid (hB _ (Qgf Hb gz)),j,p2,g2,q2 || Qdb f u,hw _ _ _ _ _ ha⟩
set_option maxRecDepth 100000 in
theorem Qmg(r:Nat)(L:List (Int × ByteArray × Int))(d i0 k:Nat)(hk:k<10)(dp gr dv:Bool)(w:World)(h:QLa w r L i0 d false dp gr dv)
 (hL:∀j,i0≤j→∀(dp gr dv:Bool) (w:World),QLa w r L j d false dp gr dv→Calls Tryz.prog 183 #[.pointer (some ⟨r,0,none⟩),.int .i64 ((k:Int)-1)] w (QNb r L (.lvl k) d j dp gr dv w)) :
 Calls Tryz.prog 183 #[.pointer (some ⟨r,0,none⟩),.int .i64 (k:Int)] w (QNb r L (.lvl (k+1)) d i0 dp gr dv w):=by
 have ho:=hL i0 (Nat.le_refl _) dp gr dv w h
 have HL:=hid hL
 have Ht:¬((k:Int)<0):=by omega
 have Ho:IntKind.i64.wrap ((k:Int)-1)=(k:Int)-1:=IntWalk.i64_in _ (by omega)
 have mf:(0:Int)≤(k:Int):=by omega
 have GP:(k:Int)<10:=by omega
 have fD:((k:Int)).toNat=k:=by omega
 have HK:=hid hk
 clear hL hk h
 go_enter Tryz.func183,Tryz.ntmps183
 go_wp2_with fail
 refine ho.mono ?_
 rintro e w1 GK
 obtain⟨v0,rfl,k8,GZ,cy⟩:=GK.val
 have Mi:(∃(v i:Int) ,v=0∧i=0):=⟨0,0,rfl,rfl⟩
 clear Mi
 have mp:=hid GK
 clear GK
 go_wp2_with fail
 go_loopg [5] (L.length+1) (fun f x wr=>∃v:Int,x = .int .u32 v∧0≤v∧v≤4294967295∧Qaa (fun b=>b=r) w wr∧
  ((∃(i:Nat) (p g q:Bool),i0<i∧i≤L.length∧L.length+1≤i+f∧QLa wr r L i d false (dp || p) (gr || g) (dv || q)∧Hid (∀res,Rd L (.loop k v) d i res→Rd L (.lvl (k+1)) d i0 (res.map fun y=>(y.1,y.2.1,orF (p,g,q) y.2.2))))∨
   (Hid (Rd L (.lvl (k+1)) d i0 none)∧∃(i:Nat) (p g q:Bool),QLa wr r L i d true p g q)))
 case atStart=>
  refine⟨v0,rfl,k8,GZ,cy,?_⟩
  rcases mp.out with⟨v,j,p,g,q,gz,e,_,_,hj,hm,ha,_⟩|⟨gz,v,j,p,g,q,e,_,_,ha,_⟩
  ·obtain rfl:v0=v:=by injection e with e;injection e
   exact .inl ⟨j,p,g,q,hj,hm,by omega,ha,hid (fun res hr=>QYj gz hr)⟩
  ·exact .inr ⟨hid (Qje gz),j,p,g,q,ha⟩
 case round=>
  obtain⟨v,rfl,k8,GZ,kL,Kq⟩:=hrel
  rcases Kq with⟨i,p,g,q,hi0,GV,kU,hr,hB⟩|⟨hN,i,p,g,q,hr⟩
  ·have Hf:=Qjb r L i d false (dp || p) (gr || g) (dv || q) wr hr
   unfold Qeb at Hf
   simp only[Bool.false_eq_true,if_false]at Hf
   clear hr
   cases Hb:Q7b k (Qwa L i)with
   | none=>
    have Hh:=hB.out _ (Qnd (d:=d) (v:=v) Hb)
    go_wp2_with fail
    refine Hf.mono ?_
    rintro e w2 ⟨rfl,gG,kF⟩
    obtain⟨gt,m,z,c1,cm,hl⟩:=gG.look k HK.out (Qwa L i) (Q7j gG i)
    rw[Hb]at hl
    simp only[Option.isSome_none]at hl
    have rl:=gG.cells.2.2.2.2.2.2.2.2.2.2.2.2.1
    have M9:=hid gG
    have HF:=hid Hh
    clear gG Hb Hh
    generalize Qwa L i=t at *
    go_wp2_with fail
    go_ret
    refine .inl ⟨v,i,p,g,q,?_,rfl,k8,GZ,hi0,GV,M9.out,kL.trans (QXa kF) (fun _ _ e=>e)⟩
    have:=HF.out
    simpa[orF,noF]using this
   | some f=>
    obtain⟨nD,ab,rZ,sa⟩:=QUg HK.out Hb
    have mQ:i+1≤L.length:=QQc (by intro e;rw[e,QIe k HK.out]at Hb;exact absurd Hb (by simp))
    obtain⟨n,lm,aZ,My⟩:=QCm f nD ab
    have jW:=hid My
    clear My
    have cD:=Hb
    have kN:=hid cD
    clear cD
    go_wp2_with fail
    refine Hf.mono ?_
    rintro e w2 ⟨rfl,gG,kF⟩
    obtain⟨gt,m,z,c1,cm,hl⟩:=gG.look k HK.out (Qwa L i) (Q7j gG i)
    rw[Hb]at hl
    simp only[Option.isSome_some,lm]at hl
    obtain⟨c2,_,_,_,_,_,f2,_,_,_,_,_,rl,_,_,_⟩:=gG.cells
    obtain⟨mY,ax⟩:=gG.on mQ
    have nN:=HL.out (i+1) (by omega) _ _ _ _ mY
    clear gG mY Hb Hf
    have qJ:=hid rZ
    have qK:=hid sa
    clear rZ sa
    have hS:∃t,t=Qwa L i:=⟨_,rfl⟩
    obtain⟨t,ht⟩:=hS
    rw[←ht]at hl
    have HT:=hid ht
    rw[←ht]
    clear ht
    go_wp2_with fail
    refine nN.mono ?_
    rintro e w3 GK
    obtain⟨u,rfl,Jk,Jl,jE⟩:=GK.val
    have mp:=hid GK
    have lz:=((kL.trans (QXa kF) (fun _ _ e=>e)).trans ax (fun _ _ e=>e)).trans jE (fun _ _ e=>e)
    have bg:=hid lz
    have fI:∃(j:Nat) (s2 p2 g2 q2:Bool),QLa w3 r L j d s2 p2 g2 q2:=by
     rcases mp.out with⟨_,j,_,_,_,_,_,_,_,_,_,ha,_⟩|⟨_,_,j,_,_,_,_,_,_,ha,_⟩
     ·exact⟨_,_,_,_,_,ha⟩
     ·exact⟨_,_,_,_,_,ha⟩
    obtain⟨jx,sx,px,gx,qx,fI⟩:=fI
    have c7:=fI.cells.2.2.2.2.2.1
    have f7:=fI.cells.2.2.2.2.2.2.2.2.2.2.2.1
    have rl3:=fI.cells.2.2.2.2.2.2.2.2.2.2.2.2.1
    clear GK lz fI nN kF ax jE kL c1 cm hl c2 f2
    by_cases hz:u=0
    ·by_cases Kx:t=⟨#[47]⟩
     ·subst hz
      subst Kx
      have ML:f=2:=qJ.out.2 HT.out.symm
      have Jd:Qdb f 0=true:=by rw[ML];rfl
      clear ML
      have hn:=Qvf hi0 kN.out hB.out (w4:=w3.setCell ⟨r,7,none⟩ (.bool true)) (fun j syn dp gr dv hh=>by
       rw[Jd,Bool.or_true]
       exact(hh.put 7 (.bool true) (i':=j) (d':=d) (syn':=syn) (dp':=dp) (gr':=gr) (dv':=true) hh.cells.2.2.2.2.2.2.2.2.2.2.2.2.2.1 hh.cells.2.2.2.2.2.2.2.2.2.2.2.2.2.2.2 (fun _ _=>rfl)).1) mp.out
      rw[if_pos Jd]at hn
      have gP:=hid hn
      have Js:=hid (bg.out.setCell (p:=⟨r,7,none⟩) (.inr rfl) (.bool true))
      clear hn hB
      have kK:=QEa f v 1 k8 GZ (by omega) (by omega)
      go_wp2_with fail
      refine(jW.out v 1 _ k8 GZ (by omega) (by omega) (fun _=>by omega)).mono ?_
      rintro e w5 ⟨rfl,rfl⟩
      go_wp2_with fail
      go_roundg (gk-1)
      case measure=>omega
      case rel=>
       refine⟨_,rfl,kK.1,kK.2,Js.out,?_⟩
       rcases gP.out with⟨i',p',g',q',e1,e2,e3,e4⟩|e
       ·exact .inl ⟨i',p',g',q',by omega,e2,by omega,e3,e4⟩
       ·exact .inr e
     ·by_cases pe:t=⟨#[37]⟩
      ·subst hz
       subst pe
       have ML:f=3:=qK.out.2 HT.out.symm
       have Jd:Qdb f 0=true:=by rw[ML];rfl
       clear ML
       have hn:=Qvf hi0 kN.out hB.out (w4:=w3.setCell ⟨r,7,none⟩ (.bool true)) (fun j syn dp gr dv hh=>by
        rw[Jd,Bool.or_true]
        exact(hh.put 7 (.bool true) (i':=j) (d':=d) (syn':=syn) (dp':=dp) (gr':=gr) (dv':=true) hh.cells.2.2.2.2.2.2.2.2.2.2.2.2.2.1 hh.cells.2.2.2.2.2.2.2.2.2.2.2.2.2.2.2 (fun _ _=>rfl)).1) mp.out
       rw[if_pos Jd]at hn
       have gP:=hid hn
       have Js:=hid (bg.out.setCell (p:=⟨r,7,none⟩) (.inr rfl) (.bool true))
       clear hn hB
       have kK:=QEa f v 1 k8 GZ (by omega) (by omega)
       go_wp2_with fail
       refine(jW.out v 1 _ k8 GZ (by omega) (by omega) (fun _=>by omega)).mono ?_
       rintro e w5 ⟨rfl,rfl⟩
       go_wp2_with fail
       go_roundg (gk-1)
       case measure=>omega
       case rel=>
        refine⟨_,rfl,kK.1,kK.2,Js.out,?_⟩
        rcases gP.out with⟨i',p',g',q',e1,e2,e3,e4⟩|e
        ·exact .inl ⟨i',p',g',q',by omega,e2,by omega,e3,e4⟩
        ·exact .inr e
      ·subst hz
       have n1:(t.toList == [47])=false:=by rw[beq_eq_false_iff_ne];intro e;exact Kx (Q3b e)
       have n2:(t.toList == [37])=false:=by rw[beq_eq_false_iff_ne];intro e;exact pe (Q3b e)
       have lf:f≠2:=fun e=>Kx (HT.out.trans (qJ.out.1 e))
       have lg:f≠3:=fun e=>pe (HT.out.trans (qK.out.1 e))
       have Jd:Qdb f 0=false:=by unfold Qdb;simp[lf,lg]
       have hn:=Qvf hi0 kN.out hB.out (w4:=w3) (fun j syn dp gr dv hh=>by rw[Jd,Bool.or_false];exact hh) mp.out
       rw[if_neg (by rw[Jd];simp)]at hn
       have gP:=hid hn
       clear hn hB
       have kK:=QEa f v 0 k8 GZ Jk Jl
       go_wp2_with fail
       refine(jW.out v 0 w3 k8 GZ Jk Jl (by rintro (e|e);exact absurd e lf;exact absurd e lg)).mono ?_
       rintro e w5 ⟨rfl,rfl⟩
       go_wp2_with fail
       go_roundg (gk-1)
       case measure=>omega
       case rel=>
        refine⟨_,rfl,kK.1,kK.2,bg.out,?_⟩
        rcases gP.out with⟨i',p',g',q',e1,e2,e3,e4⟩|e
        ·exact .inl ⟨i',p',g',q',by omega,e2,by omega,e3,e4⟩
        ·exact .inr e
    ·have bO:(u == 0)=false:=by simpa using hz
     have Jd:Qdb f u=false:=by unfold Qdb;rw[bO];rfl
     have hn:=Qvf hi0 kN.out hB.out (w4:=w3) (fun j syn dp gr dv hh=>by rw[Jd,Bool.or_false];exact hh) mp.out
     rw[if_neg (by rw[Jd];simp)]at hn
     have gP:=hid hn
     clear hn hB
     have kK:=QEa f v u k8 GZ Jk Jl
     go_wp2_with fail
     refine(jW.out v u w3 k8 GZ Jk Jl (by intro _;omega)).mono ?_
     rintro e w5 ⟨rfl,rfl⟩
     go_wp2_with fail
     go_roundg (gk-1)
     case measure=>omega
     case rel=>
      refine⟨_,rfl,kK.1,kK.2,bg.out,?_⟩
      rcases gP.out with⟨i',p',g',q',e1,e2,e3,e4⟩|e
      ·exact .inl ⟨i',p',g',q',by omega,e2,by omega,e3,e4⟩
      ·exact .inr e
  ·have Hf:=Qjb r L i d true p g q wr hr
   unfold Qeb at Hf
   rw[if_pos rfl]at Hf
   clear hr
   go_wp2_with fail
   refine Hf.mono ?_
   rintro e w2 ⟨rfl,gG,kF⟩
   obtain⟨gt,m,z,c1,cm,hl⟩:=gG.look k HK.out ⟨#[]⟩ (Nat.zero_le _)
   rw[QIe k HK.out]at hl
   simp only[Option.isSome_none]at hl
   have rl:=gG.cells.2.2.2.2.2.2.2.2.2.2.2.2.1
   have M9:=hid gG
   clear gG
   go_wp2_with fail
   go_ret
   exact .inr ⟨hN.out,v,i,p,g,q,rfl,k8,GZ,M9.out,kL.trans (QXa kF) (fun _ _ e=>e)⟩
theorem Qkk(r:Nat)(L:List (Int × ByteArray × Int))(d i:Nat)(dp gr dv:Bool)(w:World)
 (ho:Calls Tryz.prog 186 #[.pointer (some ⟨r,0,none⟩)] w (QNb r L .opnd d i dp gr dv w)) :
 Calls Tryz.prog 183 #[.pointer (some ⟨r,0,none⟩),.int .i64 (-1)] w (QNb r L (.lvl 0) d i dp gr dv w):=by
 go_enter Tryz.func183,Tryz.ntmps183
 go_wp2_with fail
 refine ho.mono ?_
 rintro e w2 GK
 obtain⟨v,rfl,_,_,_⟩:=GK.val
 have mp:=hid GK
 clear GK
 go_wp2_with fail
 go_ret
 rcases mp.out with⟨u,j,p,g,q,gz,rest⟩|⟨gz,rest⟩
 ·exact .inl ⟨u,j,p,g,q,Q6f gz,rest⟩
 ·exact .inr ⟨Q6f gz,rest⟩
theorem Q5h(r:Nat)(L:List (Int × ByteArray × Int))(d i0:Nat)
 (hO:∀j,i0≤j→∀(dp gr dv:Bool) (w:World),QLa w r L j d false dp gr dv→Calls Tryz.prog 186 #[.pointer (some ⟨r,0,none⟩)] w (QNb r L .opnd d j dp gr dv w)) :
 ∀(k:Nat),k≤10→∀j,i0≤j→∀(dp gr dv:Bool) (w:World),QLa w r L j d false dp gr dv→
  Calls Tryz.prog 183 #[.pointer (some ⟨r,0,none⟩),.int .i64 ((k:Int)-1)] w (QNb r L (.lvl k) d j dp gr dv w):=by
 intro k
 induction k with
 | zero=>intro _ j hj dp gr dv w h;exact Qkk r L d j dp gr dv w (hO j hj dp gr dv w h)
 | succ k ih=>
  intro hk j hj dp gr dv w h
  rw[show(((k+1:Nat):Int)-1)=(k:Int)from by omega]
  exact Qmg r L d j k (by omega) dp gr dv w h (fun j' hj'=>ih (by omega) j' (by omega))
set_option maxRecDepth 100000 in
theorem Q6h(r:Nat)(L:List (Int × ByteArray × Int))(d i0:Nat)(dp gr dv:Bool)(w:World)(h:QLa w r L i0 d false dp gr dv)
 (hV:Calls Tryz.prog 183 #[.pointer (some ⟨r,0,none⟩),.int .i64 9] w (QNb r L (.lvl 10) d i0 dp gr dv w))
 (hW:∀j,i0<j→∀(dp gr dv:Bool) (w:World),QLa w r L j d false dp gr dv→Calls Tryz.prog 161 #[.pointer (some ⟨r,0,none⟩)] w (QNb r L .whole d j dp gr dv w)) :
 Calls Tryz.prog 161 #[.pointer (some ⟨r,0,none⟩)] w (QNb r L .whole d i0 dp gr dv w):=by
 obtain⟨gt,m,z,c1,cm,hl⟩:=h.look 0 (by omega) ⟨#[]⟩ (Nat.zero_le _)
 have rl:=h.cells.2.2.2.2.2.2.2.2.2.2.2.2.1
 have HW:=hid hW
 clear h cm hl hW
 go_enter Tryz.func161,Tryz.ntmps161
 go_wp2_with fail
 refine hV.mono ?_
 clear hV c1
 rintro e w1 (⟨v,j,p,g,q,gz,rfl,k8,GZ,sj,pV,Hz,MD⟩|⟨gz,v,j,p,g,q,rfl,k8,GZ,Hz,MD⟩)
 ·have Hf:=Qjb r L j d false _ _ _ w1 Hz
  unfold Qeb at Hf
  simp only[Bool.false_eq_true,if_false]at Hf
  have kB:=hid gz
  clear gz
  by_cases hs:Qwa L j=⟨#[63]⟩
  ·have mQ:j+1≤L.length:=QQc (by rw[hs];decide)
   have HS:=hid hs
   rw[hs]at Hf
   clear hs
   go_wp2_with fail
   refine Hf.mono ?_
   rintro e w2 ⟨rfl,gG,kF⟩
   obtain⟨c2,_,_,_,_,_,f2,_,_,_,_,_,rl2,_,_,_⟩:=gG.cells
   obtain⟨mY,ax⟩:=gG.on mQ
   have Mj:=HW.out (j+1) (by omega) _ _ _ _ mY
   have jE:=(MD.trans (QXa kF) (fun _ _ e=>e)).trans ax (fun _ _ e=>e)
   clear gG mY Hf Hz MD kF ax
   go_wp2_with fail
   refine Mj.mono ?_
   clear Mj c2 f2
   rintro e w3 (⟨y,j2,p2,g2,q2,MG,rfl,KA,Ke,Gf,sk,Mh,ay⟩|⟨MG,y,j2,p2,g2,q2,rfl,KA,Ke,Mh,ay⟩)
   ·have jF:=jE.trans ay (fun _ _ e=>e)
    have jf:=QNd r L j2 d false _ _ _ ⟨#[58]⟩ _ Mh (by decide)
    unfold Q2c at jf
    have jq:=hid MG
    clear Mh jE ay MG
    by_cases hc:Qwa L j2=⟨#[58]⟩
    ·have hin2:j2+1≤L.length:=QQc (by rw[hc];decide)
     have HC:=hid hc
     go_wp2_with fail
     refine jf.mono ?_
     rintro e w4 ⟨rfl,Gd,ct,_⟩
     have ji:=ct ⟨by trivial,hc⟩
     have gn:=jF.trans Gd (fun _ _ e=>e)
     have Mj:=HW.out (j2+1) (by omega) _ _ _ _ ji
     clear jf ct ji jF Gd hc
     go_wp2_with fail
     refine Mj.mono ?_
     clear Mj
     rintro e w5 (⟨u,j4,p4,g4,q4,aE,rfl,Jk,Jl,hj4,nH,jU,jG⟩|⟨aE,u,j4,p4,g4,q4,rfl,Jk,Jl,jU,jG⟩)
     ·have ap:=gn.trans jG (fun _ _ e=>e)
      have ah:=hid (QXl kB.out HS.out jq.out HC.out aE)
      have K3:=hid jU
      clear jU aE
      by_cases hz:v=0
      ·have bO:(v != 0)=false:=by subst hz;rfl
       go_wp2_with fail
       go_ret
       exact .inl ⟨u,j4,p || p2 || p4,g || g2 || g4,q || q2 || q4,by have:=ah.out;simpa[orF,hz]using this,rfl,Jk,Jl,by omega,nH,by simpa[Bool.or_assoc]using K3.out,ap⟩
      ·have bO:(v != 0)=true:=by simpa using hz
       go_wp2_with fail
       go_ret
       exact .inl ⟨y,j4,p || p2 || p4,g || g2 || g4,q || q2 || q4,by have:=ah.out;simpa[orF,hz]using this,rfl,KA,Ke,by omega,nH,by simpa[Bool.or_assoc]using K3.out,ap⟩
     ·have ap:=gn.trans jG (fun _ _ e=>e)
      have ah:=hid (QXl kB.out HS.out jq.out HC.out aE)
      have K3:=hid jU
      clear jU aE
      by_cases hz:v=0
      ·have bO:(v != 0)=false:=by subst hz;rfl
       go_wp2_with fail
       go_ret
       exact .inr ⟨ah.out,u,j4,p4,g4,q4,rfl,Jk,Jl,K3.out,ap⟩
      ·have bO:(v != 0)=true:=by simpa using hz
       go_wp2_with fail
       go_ret
       exact .inr ⟨ah.out,y,j4,p4,g4,q4,rfl,KA,Ke,K3.out,ap⟩
    ·have ah:=hid (Qri kB.out HS.out jq.out hc)
     go_wp2_with fail
     refine jf.mono ?_
     rintro e w4 ⟨rfl,Gd,_,J9⟩
     have ji:=J9 (fun e=>hc e.2)
     have gn:=jF.trans Gd (fun _ _ e=>e)
     have Mj:=Qyi r L d _ _ _ _ w4 ji
     unfold Qud at Mj
     clear jf J9 ji jF Gd hc
     go_wp2_with fail
     refine Mj.mono ?_
     clear Mj
     rintro e w5 ⟨u,j4,p4,g4,q4,rfl,Jk,Jl,jU,jG⟩
     have ap:=gn.trans jG (fun _ _ e=>e)
     have K3:=hid jU
     clear jU
     by_cases hz:v=0
     ·have bO:(v != 0)=false:=by subst hz;rfl
      go_wp2_with fail
      go_ret
      exact .inr ⟨ah.out,u,j4,p4,g4,q4,rfl,Jk,Jl,K3.out,ap⟩
     ·have bO:(v != 0)=true:=by simpa using hz
      go_wp2_with fail
      go_ret
      exact .inr ⟨ah.out,y,j4,p4,g4,q4,rfl,KA,Ke,K3.out,ap⟩
   ·have jF:=jE.trans ay (fun _ _ e=>e)
    have jf:=QNd r L j2 d true _ _ _ ⟨#[58]⟩ _ Mh (by decide)
    unfold Q2c at jf
    have ah:=hid (QRg kB.out HS.out MG)
    clear Mh jE ay MG
    go_wp2_with fail
    refine jf.mono ?_
    rintro e w4 ⟨rfl,Gd,_,J9⟩
    have ji:=J9 (by simp)
    have gn:=jF.trans Gd (fun _ _ e=>e)
    have Mj:=Qyi r L d _ _ _ _ w4 ji
    unfold Qud at Mj
    clear jf J9 ji jF Gd
    go_wp2_with fail
    refine Mj.mono ?_
    clear Mj
    rintro e w5 ⟨u,j4,p4,g4,q4,rfl,Jk,Jl,jU,jG⟩
    have ap:=gn.trans jG (fun _ _ e=>e)
    have K3:=hid jU
    clear jU
    by_cases hz:v=0
    ·have bO:(v != 0)=false:=by subst hz;rfl
     go_wp2_with fail
     go_ret
     exact .inr ⟨ah.out,u,j4,p4,g4,q4,rfl,Jk,Jl,K3.out,ap⟩
    ·have bO:(v != 0)=true:=by simpa using hz
     go_wp2_with fail
     go_ret
     exact .inr ⟨ah.out,y,j4,p4,g4,q4,rfl,KA,Ke,K3.out,ap⟩
  ·have jT:((Qwa L j).toList == [63])=false:=by
    rw[beq_eq_false_iff_ne];intro e;exact hs (Q3b e)
   have HF:=hid (Qyf kB.out hs)
   clear hs
   generalize Qwa L j=t at Hf jT
   go_wp2_with fail
   refine Hf.mono ?_
   rintro e w2 ⟨rfl,gG,kF⟩
   go_wp2_with fail
   go_ret
   exact .inl ⟨v,j,p,g,q,HF.out,rfl,k8,GZ,sj,pV,gG,MD.trans (QXa kF) (fun _ _ e=>e)⟩
 ·have Hf:=Qjb r L j d true _ _ _ w1 Hz
  unfold Qeb at Hf
  rw[if_pos rfl]at Hf
  go_wp2_with fail
  refine Hf.mono ?_
  rintro e w2 ⟨rfl,gG,kF⟩
  go_wp2_with fail
  go_ret
  exact .inr ⟨QGe gz,v,j,p,g,q,rfl,k8,GZ,gG,MD.trans (QXa kF) (fun _ _ e=>e)⟩
theorem Qao(r:Nat)(L:List (Int × ByteArray × Int)):∀(m i:Nat),L.length≤i+m→∀(d:Nat) (dp gr dv:Bool) (w:World),QLa w r L i d false dp gr dv→
 Calls Tryz.prog 161 #[.pointer (some ⟨r,0,none⟩)] w (QNb r L .whole d i dp gr dv w):=by
 intro m
 induction m with
 | zero=>
  intro i hm
  have hP:∀(d j:Nat),i≤j→∀(dp gr dv:Bool) (w:World),QLa w r L j d false dp gr dv→Calls Tryz.prog 155 #[.pointer (some ⟨r,0,none⟩)] w (QNb r L .prim d j dp gr dv w):=
   fun d j hj dp gr dv w h=>Qae r L d j dp gr dv w h (fun hi=>by omega)
  intro d dp gr dv w h
  have hO:∀j,i≤j→∀(dp gr dv:Bool) (w:World),QLa w r L j d false dp gr dv→Calls Tryz.prog 186 #[.pointer (some ⟨r,0,none⟩)] w (QNb r L .opnd d j dp gr dv w):=
   fun j hj dp gr dv w h=>QRf r L d j dp gr dv w h (fun j' hj' w' h'=>hP d j' (by omega) dp gr dv w' h')
  refine Q6h r L d i dp gr dv w h (Q5h r L d i hO 10 (Nat.le_refl _) i (Nat.le_refl _) dp gr dv w h) ?_
  intro j hj dp gr dv w' h'
  have:=h'.cells.2.2.2.2.2.2.2.2.2.2.2.2.2.1
  omega
 | succ m ih=>
  intro i hm
  have hP:∀(d j:Nat),i≤j→∀(dp gr dv:Bool) (w:World),QLa w r L j d false dp gr dv→Calls Tryz.prog 155 #[.pointer (some ⟨r,0,none⟩)] w (QNb r L .prim d j dp gr dv w):=
   fun d j hj dp gr dv w h=>Qae r L d j dp gr dv w h (fun _ dp gr dv w h=>ih (j+1) (by omega) (d+1) dp gr dv w h)
  intro d dp gr dv w h
  have hO:∀j,i≤j→∀(dp gr dv:Bool) (w:World),QLa w r L j d false dp gr dv→Calls Tryz.prog 186 #[.pointer (some ⟨r,0,none⟩)] w (QNb r L .opnd d j dp gr dv w):=
   fun j hj dp gr dv w h=>QRf r L d j dp gr dv w h (fun j' hj' w' h'=>hP d j' (by omega) dp gr dv w' h')
  refine Q6h r L d i dp gr dv w h (Q5h r L d i hO 10 (Nat.le_refl _) i (Nat.le_refl _) dp gr dv w h) ?_
  intro j hj dp gr dv w' h'
  exact ih j (by omega) d dp gr dv w' h'
def Qlf:Option (Int × Nat × Bool × Bool × Bool)→Int × Int × Int
 | none=>(0,0,6)
 | some (v,j,p,g,q)=>if p=true then(0,0,3)else if g=true then(0,0,2)else if q=true then(0,0,22)else(v,j,0)
def QXe(s p g q:Bool)(u:Int)(j:Nat):Int × Int × Int:=if s=true then(0,0,6)else if p=true then(0,0,3)else if g=true then(0,0,2)else if q=true then(0,0,22)else(u,j,0)
def mkF(s p g q:Bool):Nat→Bool
 | 0=>s
 | 1=>p
 | 2=>g
 | _=>q
theorem Qte(w:World)(o:Obj)(n:Nat):Qaa (fun _=>False) w ((w.alloc o).drewN n):=((Qaa.refl _ w).alloc o).drewN n
theorem Qaa.cell_of{w w':World}(k:Qaa (fun _=>False) w w'){g o:Nat}{v:Value}(h:w.cell? ⟨g,o,none⟩=some v)(hl:g<w.heap.size):w'.cell? ⟨g,o,none⟩=some v:=
 (k.cell (p:=⟨g,o,none⟩) hl (fun e=>e)).trans h
theorem Qwl(w:World)(s p g q:Bool)(t:Nat) :
 ∃(W:World) (b:Nat),(w.alloc (.cells #[.bool s,.int .i64 6,.bool p,.int .i64 3,.bool g,.int .i64 2,.bool q,.int .i64 22] t)).drew=W∧w.heap.size=b∧W.cell? ⟨b,0,none⟩=some (.bool s)∧W.cell? ⟨b,1,none⟩=some (.int .i64 6)∧W.cell? ⟨b,2,none⟩=some (.bool p)∧W.cell? ⟨b,3,none⟩=some (.int .i64 3)∧W.cell? ⟨b,4,none⟩=some (.bool g)∧W.cell? ⟨b,5,none⟩=some (.int .i64 2)∧W.cell? ⟨b,6,none⟩=some (.bool q)∧W.cell? ⟨b,7,none⟩=some (.int .i64 22)∧b<W.heap.size∧Qaa (fun _=>False) w W:=by
 have hn:=Qca.new w #[.bool s,.int .i64 6,.bool p,.int .i64 3,.bool g,.int .i64 2,.bool q,.int .i64 22] t
 exact⟨_,_,rfl,rfl,hn.cell 0,hn.cell 1,hn.cell 2,hn.cell 3,hn.cell 4,hn.cell 5,hn.cell 6,hn.cell 7,hn.lt,((Qaa.refl _ w).alloc _).drewN 1⟩
theorem Qyk{r:Nat}{L:List (Int × ByteArray × Int)}{W:Wh}{d i:Nat}{w:World}{e:Ending}{w':World}(h:QNb r L W d i false false false w e w') :
 ∃(u:Int) (j:Nat) (s p g q:Bool),e = .returned (.int .u32 u)∧0≤u∧u≤4294967295∧j≤1000000000∧w'.cell? ⟨r,2,none⟩=some (.int .i64 j)∧w'.cell? ⟨r,4,none⟩=some (.bool s)∧w'.cell? ⟨r,5,none⟩=some (.bool p)∧w'.cell? ⟨r,6,none⟩=some (.bool g)∧w'.cell? ⟨r,7,none⟩=some (.bool q)∧r<w'.heap.size∧Qaa (fun b=>b=r) w w'∧
  ∃res,Rd L W d i res∧Qlf res=QXe s p g q u j:=by
 rcases h with⟨u,j,p,g,q,hr,rfl,h0,h1,_,_,ha,hk⟩|⟨hr,u,j,p,g,q,rfl,h0,h1,ha,hk⟩
 ·obtain⟨c2,_,c4,c5,c6,c7,_,_,_,_,_,_,rl,hj,hL,_⟩:=ha.cells
  refine⟨u,j,false,p,g,q,rfl,h0,h1,by omega,c2,c4,by simpa using c5,by simpa using c6,by simpa using c7,rl,hk,_,hr,?_⟩
  simp[Qlf,QXe]
 ·obtain⟨c2,_,c4,c5,c6,c7,_,_,_,_,_,_,rl,hj,hL,_⟩:=ha.cells
  exact⟨u,j,true,p,g,q,rfl,h0,h1,by omega,c2,c4,c5,c6,c7,rl,hk,_,hr,rfl⟩
def QLi(fl:Bool × Bool × Bool)(res:Option (Int × Nat × Bool × Bool × Bool)):Option (Int × Nat × Bool × Bool × Bool):=res.map fun y=>(y.1,y.2.1,orF fl y.2.2)
theorem QBj(a b:Bool × Bool × Bool)(res:Option (Int × Nat × Bool × Bool × Bool)):QLi a (QLi b res)=QLi (orF a b) res:=by
 cases res with
 | none=>rfl
 | some y=>simp[QLi,QHl]
theorem QMp(a:Bool × Bool × Bool):orF a noF=a:=by simp[orF,noF]
theorem QLp(a:Bool × Bool × Bool):orF noF a=a:=by simp[orF,noF]
theorem Q0k(res:Option (Int × Nat × Bool × Bool × Bool)):QLi noF res=res:=by
 cases res with
 | none=>rfl
 | some y=>simp[QLi,QLp]
def RL(L:List (Int × ByteArray × Int)):Nat→Int→Nat→Nat→Option (Int × Nat × Bool × Bool × Bool)→Prop
 | 0,v,_,i,res=>res=some (v,i,noF)
 | K+1,v,d,i,res=>∃r1,RL L K v d i r1∧match r1 with
  | none=>res=none
  | some q=>∃r2,Rd L (.loop K q.1) d q.2.1 r2∧res=QLi q.2.2 r2
theorem RL.det{L:List (Int × ByteArray × Int)}:∀{K:Nat} {v:Int} {d i:Nat} {r s:Option (Int × Nat × Bool × Bool × Bool)},RL L K v d i r→RL L K v d i s→r=s:=by
 intro K
 induction K with
 | zero=>intro v d i r s h k;exact h.trans k.symm
 | succ K ih=>
  intro v d i r s ⟨a,ha,K7⟩ ⟨b,hb,Hn⟩
  obtain rfl:=ih ha hb
  cases a with
  | none=>exact K7.trans Hn.symm
  | some q=>
   obtain⟨x,hx,rfl⟩:=K7
   obtain⟨y,hy,rfl⟩:=Hn
   rw[hx.det hy]
theorem QYl{L:List (Int × ByteArray × Int)}{d i:Nat}{q:Int × Nat × Bool × Bool × Bool}(h:Rd L .opnd d i (some q)):∀(K:Nat) (res:Option (Int × Nat × Bool × Bool × Bool)),RL L K q.1 d q.2.1 res→Rd L (.lvl K) d i (QLi q.2.2 res):=by
 intro K
 induction K with
 | zero=>
  intro res hr
  obtain rfl:res=some (q.1,q.2.1,noF):=hr
  show Rd L (.lvl 0) d i (some (q.1,q.2.1,orF q.2.2 noF))
  rw[QMp]
  exact Q6f h
 | succ K ih=>
  intro res ⟨r1,h1,h2⟩
  have:=ih r1 h1
  cases r1 with
  | none=>
   obtain rfl:res=none:=h2
   exact Qje this
  | some p=>
   obtain⟨r2,h3,rfl⟩:=h2
   rw[QBj]
   exact QYj (q:=(p.1,p.2.1,orF q.2.2 p.2.2)) this h3
theorem Q0j{L:List (Int × ByteArray × Int)}{v:Int}{d i:Nat}:∀(K:Nat),(∀q,q<K→Q7b q (Qwa L i)=none)→RL L K v d i (some (v,i,noF)):=by
 intro K
 induction K with
 | zero=>intro _;rfl
 | succ K ih=>
  intro h
  refine⟨_,ih (fun q hq=>h q (by omega)),?_⟩
  exact⟨_,Qnd (h K (by omega)),by simp[QLi,orF,noF]⟩
theorem QTm{L:List (Int × ByteArray × Int)}{k d:Nat}(hl:∀(i:Nat) (q:Int × Nat × Bool × Bool × Bool),Rd L (.lvl k) d i (some q)→∀m,m<k→Q7b m (Qwa L q.2.1)=none) :
 ∀(n:Nat) (v:Int) (i:Nat) (q:Int × Nat × Bool × Bool × Bool),evT L n (.loop k v) d i=some (some q)→(∀m,m<k→Q7b m (Qwa L i)=none)→∀m,m<k+1→Q7b m (Qwa L q.2.1)=none:=by
 intro n
 induction n with
 | zero=>intro v i q h;simp[evT]at h
 | succ n ih=>
  intro v i q h hp m hm
  rw[evT]at h
  cases hr:Q7b k (Qwa L i)with
  | none=>
   rw[hr]at h
   obtain rfl:=Option.some.inj (Option.some.inj h)
   rcases Nat.lt_or_ge m k with c|c
   ·exact hp m c
   ·obtain rfl:m=k:=by omega
    exact hr
  | some f=>
   rw[hr]at h
   obtain⟨r,Hz,gG⟩:=Option.bind_eq_some_iff.1 h
   cases r with
   | none=>simp at gG
   | some y=>
    obtain⟨r2,h3,h4⟩:=Option.map_eq_some_iff.1 gG
    cases r2 with
    | none=>simp at h4
    | some z=>
     have:=ih _ _ _ h3 (hl _ _ ⟨n,Hz⟩) m hm
     simp only[Option.map_some,Option.some.injEq]at h4
     rw[←h4];exact this
theorem Qvo{L:List (Int × ByteArray × Int)}{d:Nat}:∀(k i:Nat) (q:Int × Nat × Bool × Bool × Bool),Rd L (.lvl k) d i (some q)→∀m,m<k→Q7b m (Qwa L q.2.1)=none:=by
 intro k
 induction k with
 | zero=>intro i q _ m hm;omega
 | succ k ih=>
  intro i q ⟨n,hn⟩ m hm
  cases n with
  | zero=>simp[evT]at hn
  | succ n=>
   rw[evT]at hn
   obtain⟨r,Hz,gG⟩:=Option.bind_eq_some_iff.1 hn
   cases r with
   | none=>simp at gG
   | some y=>
    obtain⟨r2,h3,h4⟩:=Option.map_eq_some_iff.1 gG
    cases r2 with
    | none=>simp at h4
    | some z=>
     have:=QTm (fun i q h=>ih i q h) n _ _ _ h3 (ih i y ⟨n,Hz⟩) m hm
     simp only[Option.map_some,Option.some.injEq]at h4
     rw[←h4];exact this
section
variable{L:List (Int × ByteArray × Int)}{d j k f:Nat}{x:Int}
theorem Q2o{u:Int × Nat × Bool × Bool × Bool}(Hb:Q7b k (Qwa L j)=some f)(GD:∀m,m<k→Q7b m (Qwa L j)=none)(h:Rd L (.lvl k) d (j+1) (some u)) :
 ∀(K:Nat),k<K→∀res,RL L K (QPb f x (if Qdb f u.1=true then 1 else u.1)) d u.2.1 res→RL L K x d j (QLi (orF u.2.2 (false,false,Qdb f u.1)) res):=by
 intro K
 induction K with
 | zero=>intro hk;omega
 | succ K ih=>
  intro hk res ⟨r1,h1,h2⟩
  rcases Nat.lt_or_ge k K with c|c
  ·have:=ih c r1 h1
   refine⟨_,this,?_⟩
   cases r1 with
   | none=>obtain rfl:res=none:=h2;rfl
   | some p=>
    obtain⟨r2,h3,rfl⟩:=h2
    exact⟨r2,h3,by rw[QBj]⟩
  ·obtain rfl:k=K:=by omega
   have e1:=h1.det (Q0j k (Qvo k _ _ h))
   subst e1
   obtain⟨r2,h3,rfl⟩:=h2
   refine⟨_,Q0j k GD,?_⟩
   refine⟨_,Qxh Hb h h3,?_⟩
   show QLi _ (QLi noF r2)=QLi noF _
   rw[Q0k,Q0k]
   rfl
end
set_option maxRecDepth 100000 in
theorem Q7g(L:List (Int × ByteArray × Int))(v:Value)(i:Nat)(w:World)(hv:QEf (fun x=>x<w.heap.size) w v L)(hL:L.length≤1000000000)(hi:i<L.length) :
 Calls Tryz.prog 154 #[v,.int .i64 i,.func (.func 155) #[] #[]] w fun e w'=>∃res,Rd L .prim 0 i res∧e = .returned (.tuple #[.int .i64 (Qlf res).1,.int .i64 (Qlf res).2.1,.int .i64 (Qlf res).2.2])∧Below w.heap.size w w':=by
 have nG:(i:Int)<(L.length:Int):=by omega
 have kU:¬((L.length:Int)≤(i:Int)):=by omega
 have ht:=Qdl w
 have HV:=hid hv
 obtain⟨a,cap,rfl,_⟩:=hv
 go_enter Tryz.func154,Tryz.ntmps154
 go_wp2_with fail
 refine ht.mono ?_
 rintro e w1 ⟨g,bs,rfl,na,He,pP,pQ,gq⟩
 have qA:=gq.size
 have aY:QLa (w1.alloc (.cells #[.slice a L.length cap,.slice (some ⟨g,0,none⟩) 10 10,.int .i64 i,.int .i64 (0:Nat),.bool false,.bool false,.bool false,.bool false] 190)) w1.heap.size L i 0 false false false false:=by
  have k1:Qaa (fun _=>False) w w1:=Qaa.of_fresh gq _
  have k2:=(Qaa.refl (fun _=>False) w1).alloc (.cells #[.slice a L.length cap,.slice (some ⟨g,0,none⟩) 10 10,.int .i64 i,.int .i64 (0:Nat),.bool false,.bool false,.bool false,.bool false] 190)
  have fK:=(HV.out.keeps k1 (fun _ _ e=>e)).keeps k2 (fun _ _ e=>e)
  obtain⟨a',c',e1,e2,e3⟩:=fK
  refine⟨.slice a L.length cap,g,bs,Qca.new w1 _ _,⟨a',c',e1,e2,fun h0=>?_⟩,na.keeps k2 (fun e=>e) (fun _ _ e=>e),by omega,fun b hb e=>?_,by omega,hL,by omega⟩
  ·obtain⟨g',o',f1,f2,f3⟩:=e3 h0
   exact⟨g',o',f1,(by show g'≠w1.heap.size;omega),f3⟩
  ·have:=He b hb;omega
 have Mj:=Qae w1.heap.size L 0 i false false false _ aY (fun hj dp gr dv wx hx=>Qao w1.heap.size L L.length (i+1) (by omega) 1 dp gr dv wx hx)
 go_wp2_with fail
 refine(by exact Mj:Calls _ _ _ _ _).mono ?_
 rintro e w2 GK
 obtain⟨u,j,s,p,g2,q,rfl,Jk,Jl,hj,c2,c4,c5,c6,c7,rl,cy,Gu⟩:=Qyk GK
 have Jo:w1.heap.size<w2.heap.size:=rl
 obtain⟨b,hb⟩:∃b,b=w1.heap.size:=⟨_,rfl⟩
 rw[←hb]at c2 c4 c5 c6 c7 Jo rl
 have HK:=hid cy
 have HT:=hid (show True from trivial)
 clear Mj aY GK cy HT ht na He pP pQ HV
 have HB:=hid gq
 have jt:=hid qA
 clear gq qA
 rw[←hb]
 have KL:=hid hb
 clear hb
 go_wp2_with fail
 go_region
 obtain⟨W3,gb,J1,fC,m0,m1,m2,m3,m4,m5,m6,m7,m8,mk⟩:=Qwl w2 s p g2 q 191
 rw[J1,fC]
 have c2':=(mk.cell (p:=⟨b,2,none⟩) rl (fun e=>e)).trans c2
 have c2l:b<W3.heap.size:=Nat.lt_of_lt_of_le rl mk.size
 have aQ:=hid mk
 clear mk c2 c4 c5 c6 c7 rl Jo J1 fC
 have Mo:=hid Gu
 clear Gu
 go_wp2_with fail
 go_loopg [12,51] 4 (fun f x y wr=>∃k:Nat,y = .int .i64 (k:Int)∧k+f=4∧Hid (∀j,j<k→mkF s p g2 q j=false)∧Hid (Qaa (fun _=>False) W3 wr))
 case atStart=>exact⟨0,rfl,rfl,hid (by intro j hj;omega),hid (Qaa.refl _ _)⟩
 case round=>
  obtain⟨k,hy,av,hM,kL⟩:=hrel
  have e0:=kL.out.cell_of m0 m8
  have e1:=kL.out.cell_of m1 m8
  have e2:=kL.out.cell_of m2 m8
  have e3:=kL.out.cell_of m3 m8
  have e4:=kL.out.cell_of m4 m8
  have e5:=kL.out.cell_of m5 m8
  have e6:=kL.out.cell_of m6 m8
  have e7:=kL.out.cell_of m7 m8
  have e8:gb<wr.heap.size:=Nat.lt_of_lt_of_le m8 kL.out.size
  have c2w:=kL.out.cell_of c2' c2l
  have c2v:b<wr.heap.size:=Nat.lt_of_lt_of_le c2l kL.out.size
  have Hs:k=0∨k=1∨k=2∨k=3∨k=4:=by omega
  clear m0 m1 m2 m3 m4 m5 m6 m7 m8 c2' c2l
  rcases Hs with rfl|rfl|rfl|rfl|rfl
  ·obtain rfl:u51 = .int .i64 0:=hy
   cases s
   ·go_wp2_with fail
    go_roundg (gk-1)
    case measure=>omega
    case rel=>
     refine⟨1,rfl,by omega,hid ?_,hid ?_⟩
     ·intro j hj
      rcases Nat.lt_or_ge j 0 with c|c
      ·exact hM.out j c
      ·obtain rfl:j=0:=by omega
       rfl
     ·exact kL.out.alloc _
   ·have M0:=hM.out
    clear hM
    have GE:=hid M0
    clear M0
    go_wp2_with fail
    go_quiet (fail)
    go_wp2_with fail
    go_ret3
    obtain⟨res,gz,bQ⟩:=Mo.out
    have hv:Qlf res=(0,0,6):=by rw[bQ];simp[QXe]
    have B1:Below w.heap.size w w2:=(HB.out.alloc jt.out _).trans (HK.out.below (by have:=jt.out;simp;omega) (fun i hi e=>by have:=jt.out;omega))
    have B2:Below w.heap.size w wr:=B1.trans ((aQ.out.trans kL.out (fun _ _ e=>e)).below B1.size (fun _ _ e=>e))
    exact⟨res,gz,by rw[hv];rfl,B2.trans (Qaa.below (S:=fun _=>False) (Qte wr _ _) B2.size (fun _ _ e=>e))⟩
  ·obtain rfl:u51 = .int .i64 1:=hy
   cases p
   ·go_wp2_with fail
    go_roundg (gk-1)
    case measure=>omega
    case rel=>
     refine⟨2,rfl,by omega,hid ?_,hid ?_⟩
     ·intro j hj
      rcases Nat.lt_or_ge j 1 with c|c
      ·exact hM.out j c
      ·obtain rfl:j=1:=by omega
       rfl
     ·exact kL.out.alloc _
   ·have M0:=hM.out
    clear hM
    have GE:=hid M0
    clear M0
    go_wp2_with fail
    go_quiet (fail)
    go_wp2_with fail
    go_ret3
    obtain⟨res,gz,bQ⟩:=Mo.out
    have f0:=GE.out 0 (by omega)
    simp only[mkF]at f0
    have hv:Qlf res=(0,0,3):=by rw[bQ];simp[QXe,f0]
    have B1:Below w.heap.size w w2:=(HB.out.alloc jt.out _).trans (HK.out.below (by have:=jt.out;simp;omega) (fun i hi e=>by have:=jt.out;omega))
    have B2:Below w.heap.size w wr:=B1.trans ((aQ.out.trans kL.out (fun _ _ e=>e)).below B1.size (fun _ _ e=>e))
    exact⟨res,gz,by rw[hv];rfl,B2.trans (Qaa.below (S:=fun _=>False) (Qte wr _ _) B2.size (fun _ _ e=>e))⟩
  ·obtain rfl:u51 = .int .i64 2:=hy
   cases g2
   ·go_wp2_with fail
    go_roundg (gk-1)
    case measure=>omega
    case rel=>
     refine⟨3,rfl,by omega,hid ?_,hid ?_⟩
     ·intro j hj
      rcases Nat.lt_or_ge j 2 with c|c
      ·exact hM.out j c
      ·obtain rfl:j=2:=by omega
       rfl
     ·exact kL.out.alloc _
   ·have M0:=hM.out
    clear hM
    have GE:=hid M0
    clear M0
    go_wp2_with fail
    go_quiet (fail)
    go_wp2_with fail
    go_ret3
    obtain⟨res,gz,bQ⟩:=Mo.out
    have f0:=GE.out 0 (by omega)
    simp only[mkF]at f0
    have f1:=GE.out 1 (by omega)
    simp only[mkF]at f1
    have hv:Qlf res=(0,0,2):=by rw[bQ];simp[QXe,f0,f1]
    have B1:Below w.heap.size w w2:=(HB.out.alloc jt.out _).trans (HK.out.below (by have:=jt.out;simp;omega) (fun i hi e=>by have:=jt.out;omega))
    have B2:Below w.heap.size w wr:=B1.trans ((aQ.out.trans kL.out (fun _ _ e=>e)).below B1.size (fun _ _ e=>e))
    exact⟨res,gz,by rw[hv];rfl,B2.trans (Qaa.below (S:=fun _=>False) (Qte wr _ _) B2.size (fun _ _ e=>e))⟩
  ·obtain rfl:u51 = .int .i64 3:=hy
   cases q
   ·go_wp2_with fail
    go_roundg (gk-1)
    case measure=>omega
    case rel=>
     refine⟨4,rfl,by omega,hid ?_,hid ?_⟩
     ·intro j hj
      rcases Nat.lt_or_ge j 3 with c|c
      ·exact hM.out j c
      ·obtain rfl:j=3:=by omega
       rfl
     ·exact kL.out.alloc _
   ·have M0:=hM.out
    clear hM
    have GE:=hid M0
    clear M0
    go_wp2_with fail
    go_quiet (fail)
    go_wp2_with fail
    go_ret3
    obtain⟨res,gz,bQ⟩:=Mo.out
    have f0:=GE.out 0 (by omega)
    simp only[mkF]at f0
    have f1:=GE.out 1 (by omega)
    simp only[mkF]at f1
    have f2:=GE.out 2 (by omega)
    simp only[mkF]at f2
    have hv:Qlf res=(0,0,22):=by rw[bQ];simp[QXe,f0,f1,f2]
    have B1:Below w.heap.size w w2:=(HB.out.alloc jt.out _).trans (HK.out.below (by have:=jt.out;simp;omega) (fun i hi e=>by have:=jt.out;omega))
    have B2:Below w.heap.size w wr:=B1.trans ((aQ.out.trans kL.out (fun _ _ e=>e)).below B1.size (fun _ _ e=>e))
    exact⟨res,gz,by rw[hv];rfl,B2.trans (Qaa.below (S:=fun _=>False) (Qte wr _ _) B2.size (fun _ _ e=>e))⟩
  ·obtain rfl:u51 = .int .i64 4:=hy
   go_wp2_with fail
   go_quiet (fail)
   go_wp2_with fail
   go_ret3
   obtain⟨res,gz,bQ⟩:=Mo.out
   have f0:=hM.out 0 (by omega)
   simp only[mkF]at f0
   have f1:=hM.out 1 (by omega)
   simp only[mkF]at f1
   have f2:=hM.out 2 (by omega)
   simp only[mkF]at f2
   have f3:=hM.out 3 (by omega)
   simp only[mkF]at f3
   have hv:Qlf res=(u,(j:Int),0):=by rw[bQ];simp[QXe,f0,f1,f2,f3]
   have B1:Below w.heap.size w w2:=(HB.out.alloc jt.out _).trans (HK.out.below (by have:=jt.out;simp;omega) (fun i hi e=>by have:=jt.out;omega))
   have B2:Below w.heap.size w wr:=B1.trans ((aQ.out.trans kL.out (fun _ _ e=>e)).below B1.size (fun _ _ e=>e))
   exact⟨res,gz,by rw[hv];rfl,B2.trans (Qaa.below (S:=fun _=>False) (Qda wr _) B2.size (fun _ _ e=>e))⟩
end Go.Proofs.YtofhcgbihonckaaGreat
