/- The reader of package expression: what a row of the table answers; what happens once the form is wrong. | The reader of package expression, once the form is wrong: level, whole. | The reader of package expression: operand. | The reader of package expression: the signs' functions by their numbers. | The reader of package expression: level. | The reader of package expression: whole. | The reader of package expression: all its methods, by the tokens that are left. | Package expression: read. | Package expression: read. | Expressions in plain Lean: climbing by ranks is the same as reading level by level. | Package expression: Primary (printed by gprim.py). -/
import Derived.Test.YtgaboghigefgbaaGreatDoorZ10
import Derived.Deep.LoopGhost
import Derived.Laws.AppendOwn
import Derived.Laws.OwnMore
import Derived.BigRegion
set_option linter.all false
set_option maxHeartbeats 8000000
namespace Go.Proofs.YtgaboghigefgbaaGreatDoor
open Go.Lib (hid)
open Go.RowKit
theorem QOs(k:Nat)(z:Value)(s:ByteArray):Qbs (Qdf (Q8d.getD k [])) z s=match QJj k s with
 | none=>(z,false)
 | some f=>(fnT f,true):=by
 unfold Qbs QJj Qdf
 rw[List.find?_map]
 have:((fun p:ByteArray × Value=>decide (p.1=s)) ∘ fun p:ByteArray × Nat=>(p.1,fnT p.2))=fun p:ByteArray × Nat=>decide (p.1=s):=rfl
 rw[this]
 cases (Q8d.getD k []).find? (fun p=>decide (p.1=s))with
 | none=>rfl
 | some p=>rfl
theorem Qoo:∀k,k<10→((Qdf (Q8d.getD k [])).map (·.1)).Nodup:=by
 intro k hk
 have:(Qdf (Q8d.getD k [])).map (·.1)=(Q8d.getD k []).map (·.1):=by unfold Qdf;rw[List.map_map];rfl
 rw[this]
 revert k
 decide
theorem Qph:∀k,k<10→QJj k ⟨#[]⟩=none:=by decide
section
variable{w:World}{r:Nat}{L:List (Int × ByteArray × Int)}{i d:Nat}{syn dp gr dv:Bool}
theorem QZa.look(h:QZa w r L i d syn dp gr dv)(k:Nat)(hk:k<10)(s:ByteArray)(hs:s.size≤maxLen) :
 ∃g m z,w.cell? ⟨r,1,none⟩=some (.slice (some ⟨g,0,none⟩) 10 10)∧w.cell? ⟨g,k,none⟩=some (.map (some m))∧
  (Instr.lookup 266 (.map (some m)) (.string s) true).run Tryz.prog w = .ok (.tuple #[(match QJj k s with|none=>z|some f=>fnT f),.bool (QJj k s).isSome]) w:=by
 obtain⟨lv,g,bs,h1,_,⟨t1,t2,t3⟩,_⟩:=h
 have eS:k<bs.length:=by omega
 obtain⟨z,hz⟩:=(t3 k eS).look (Qoo k hk) s hs
 rw[QOs]at hz
 refine⟨g,bs[k],z,h1.cell 1,?_,?_⟩
 ·rw[t1.cell k];simp[eS]
 ·rw[hz]
  cases QJj k s <;> rfl
theorem Qbn(h:QZa w r L i d syn dp gr dv)(j:Nat):(Qkb L j).size≤maxLen:=by
 obtain⟨lv,g,bs,_,⟨a,c,_,hsz,_⟩,_⟩:=h
 unfold Qkb
 cases e:L[j]? with
 | none=>exact Nat.zero_le _
 | some t=>
  show ByteArray.size (if _ then _ else _)≤_
  split
  ·exact hsz t (List.mem_of_getElem? e)
  ·exact Nat.zero_le _
end
set_option maxRecDepth 100000 in
theorem Qsm(r:Nat)(L:List (Int × ByteArray × Int))(d i:Nat)(dp gr dv:Bool)(w:World)(h:QZa w r L i d true dp gr dv) :
 Calls Tryz.prog 232 #[.pointer (some ⟨r,0,none⟩)] w (QBe r L d w):=by
 have Hr:=QDb r L i d true dp gr dv w h
 unfold Qvb at Hr
 rw[if_pos rfl]at Hr
 go_enter Tryz.func232,Tryz.ntmps232
 go_wp2_with fail
 refine Hr.mono ?_
 rintro e w1 ⟨rfl,Hx,gz⟩
 obtain⟨c2,c3,c4,c5,c6,_,f2,f3,f4,f5,f6,_,rl,Hb,Hc,Hi⟩:=Hx.cells
 have kr:=hid Hx
 clear Hx
 go_wp2_with fail
 go_quiet (fail)
 go_wp2_with fail
 go_ret
 obtain⟨q1,m1⟩:=(kr.out.keeps (Qta _ _)).put 4 (.bool true) (i':=i) (d':=d) (syn':=true) (dp':=dp) (gr':=gr) (dv':=dv) Hb Hi (fun _ _=>rfl)
 exact⟨0,i,dp,gr,dv,rfl,by omega,by omega,q1,((Qcb gz).trans (Qcb (Qta _ _)) (fun _ _ e=>e)).trans m1 (fun _ _ e=>e)⟩
set_option maxRecDepth 100000 in
theorem Qrm(r:Nat)(L:List (Int × ByteArray × Int))(d i:Nat)(dp gr dv:Bool)(w:World)(h:QZa w r L i d true dp gr dv) :
 Calls Tryz.prog 257 #[.pointer (some ⟨r,0,none⟩)] w (QBe r L d w):=by
 have Hr:=QDb r L i d true dp gr dv w h
 unfold Qvb at Hr
 rw[if_pos rfl]at Hr
 go_enter Tryz.func257,Tryz.ntmps257
 go_wp2_with fail
 refine Hr.mono ?_
 rintro e w1 ⟨rfl,Hx,gz⟩
 have kr:=hid Hx
 clear Hx
 go_wp2_with fail
 go_loopg [3,4] 0 (fun f x y wr=>x = .slice none 0 0∧y = .string ⟨#[]⟩∧w1=wr)
 case atStart=>exact⟨rfl,rfl,rfl⟩
 case round=>
  obtain⟨rfl,rfl,rfl⟩:=hrel
  go_wp2_with fail
  refine(Qsm r L d i dp gr dv w1 kr.out).mono ?_
  rintro e w2 ⟨v,j,p,g,q,rfl,kU,Kc,gd,gJ⟩
  go_wp2_with fail
  go_loopg [5,6] 0 (fun f x y wr=>x = .int .u32 v∧y = .int .i64 (-1)∧w2=wr)
  case atStart=>exact⟨rfl,rfl,rfl⟩
  case round=>
   obtain⟨rfl,rfl,rfl⟩:=hrel
   go_wp2_with fail
   go_ret
   exact⟨v,j,p,g,q,rfl,kU,Kc,gd,(Qcb gz).trans gJ (fun _ _ e=>e)⟩
set_option maxRecDepth 100000 in
theorem Qwo(r:Nat)(L:List (Int × ByteArray × Int))(d i:Nat)(dp gr dv:Bool)(w:World)(h:QZa w r L i d true dp gr dv) :
 Calls Tryz.prog 256 #[.pointer (some ⟨r,0,none⟩),.int .i64 (-1)] w (QBe r L d w):=by
 have ho:=Qrm r L d i dp gr dv w h
 unfold QBe at ho
 go_enter Tryz.func256,Tryz.ntmps256
 go_wp2_with fail
 refine ho.mono ?_
 rintro e w2 ⟨v,j,p,g,q,rfl,kU,Kc,gd,gJ⟩
 go_wp2_with fail
 go_ret
 exact⟨v,j,p,g,q,rfl,kU,Kc,gd,gJ⟩
set_option maxRecDepth 100000 in
theorem Qoq(r:Nat)(L:List (Int × ByteArray × Int))(d:Nat):∀(k:Nat),k≤10→∀(i:Nat) (dp gr dv:Bool) (w:World),QZa w r L i d true dp gr dv→
 Calls Tryz.prog 256 #[.pointer (some ⟨r,0,none⟩),.int .i64 ((k:Int)-1)] w (QBe r L d w):=by
 intro k
 induction k with
 | zero=>intro _ i dp gr dv w h;exact Qwo r L d i dp gr dv w h
 | succ k ih=>
  intro hk i dp gr dv w h
  have ho:=ih (by omega) i dp gr dv w h
  unfold QBe at ho
  rw[show(((k+1:Nat):Int)-1)=(k:Int)from by omega]
  have gz:¬((k:Int)<0):=by omega
  have gJ:IntKind.i64.wrap ((k:Int)-1)=(k:Int)-1:=IntWalk.i64_in _ (by omega)
  have HK:=hid hk
  clear ih hk
  go_enter Tryz.func256,Tryz.ntmps256
  go_wp2_with fail
  refine ho.mono ?_
  rintro e w1 ⟨v,j,p,g,q,rfl,kU,Kc,Hx,MD⟩
  go_wp2_with fail
  go_loopg [5] 0 (fun f x wr=>x = .int .u32 v∧w1=wr)
  case atStart=>exact⟨rfl,rfl⟩
  case round=>
   obtain⟨rfl,rfl⟩:=hrel
   have Hr:=QDb r L j d true p g q w1 Hx
   unfold Qvb at Hr
   rw[if_pos rfl]at Hr
   go_wp2_with fail
   refine Hr.mono ?_
   rintro e w2 ⟨rfl,gd,kC⟩
   obtain⟨gt,m,z,c1,cm,hl⟩:=gd.look k (by have:=HK.out;omega) ⟨#[]⟩ (Nat.zero_le _)
   rw[Qph k (by have:=HK.out;omega)]at hl
   simp only[Option.isSome_none]at hl
   have GF:(0:Int)≤(k:Int):=by omega
   have Ml:(k:Int)<10:=by have:=HK.out;omega
   have sJ:((k:Int)).toNat=k:=by omega
   have Mt:=hid gd
   have rl:=gd.cells.2.2.2.2.2.2.2.2.2.2.2.2.1
   clear gd
   go_wp2_with fail
   go_ret
   exact⟨v,j,p,g,q,rfl,kU,Kc,Mt.out,MD.trans (Qcb kC) (fun _ _ e=>e)⟩
theorem Qxo(r:Nat)(L:List (Int × ByteArray × Int))(d i:Nat)(dp gr dv:Bool)(w:World)(h:QZa w r L i d true dp gr dv) :
 Calls Tryz.prog 256 #[.pointer (some ⟨r,0,none⟩),.int .i64 9] w (QBe r L d w):=Qoq r L d 10 (Nat.le_refl _) i dp gr dv w h
set_option maxRecDepth 100000 in
theorem Q6k(r:Nat)(L:List (Int × ByteArray × Int))(d i:Nat)(dp gr dv:Bool)(w:World)(h:QZa w r L i d true dp gr dv) :
 Calls Tryz.prog 235 #[.pointer (some ⟨r,0,none⟩)] w (QBe r L d w):=by
 have ho:=Qxo r L d i dp gr dv w h
 unfold QBe at ho
 obtain⟨gt,m,z,c1,cm,hl⟩:=h.look 0 (by omega) ⟨#[]⟩ (Nat.zero_le _)
 have rl:=h.cells.2.2.2.2.2.2.2.2.2.2.2.2.1
 clear h cm hl
 go_enter Tryz.func235,Tryz.ntmps235
 go_wp2_with fail
 refine ho.mono ?_
 rintro e w1 ⟨v,j,p,g,q,rfl,kU,Kc,Hx,MD⟩
 have Hr:=QDb r L j d true p g q w1 Hx
 unfold Qvb at Hr
 rw[if_pos rfl]at Hr
 go_wp2_with fail
 refine Hr.mono ?_
 rintro e w2 ⟨rfl,gd,kC⟩
 go_wp2_with fail
 go_ret
 exact⟨v,j,p,g,q,rfl,kU,Kc,gd,MD.trans (Qcb kC) (fun _ _ e=>e)⟩
theorem Qmr:(Tryz.prog.info? 9).map (fun i=>(i.zero,i.size,i.bytes))=some (some (.string ⟨#[]⟩),1,16):=by kernel_rfl
theorem Qrt(u:Int)(h0:0≤u)(h1:u≤4294967295):bits .xor .u32 IntKind.u32.max u=4294967295-u:=by
 show IntKind.u32.wrap ((((BitVec.ofInt 32 (4294967295:Int)) ^^^ (BitVec.ofInt 32 u)).toNat:Nat):Int)=_
 rw[show BitVec.ofInt 32 (4294967295:Int)=BitVec.allOnes 32 from by decide,BitVec.allOnes_xor,BitVec.toNat_not,BitVec.toNat_ofInt]
 have e:(u % ((2 ^ 32:Nat):Int)).toNat=u.toNat:=by rw[Int.emod_eq_of_lt h0 (by omega)]
 rw[e]
 have:IntKind.u32.wrap ((2 ^ 32-1-u.toNat:Nat):Int)=((2 ^ 32-1-u.toNat:Nat):Int) % 4294967296:=rfl
 rw[this];omega
theorem Q5k{w:World}{base:Nat}{e:TypeId}{size:Nat}{v:Value}{n:Nat}{xs:List Value}(h:w.ownsRow base e size v n xs):∃a c,v = .slice a n c:=by
 rcases h.2 with⟨e,h0⟩|⟨g,cap,cur,e,_⟩
 ·subst h0;exact⟨none,0,e⟩
 ·exact⟨_,_,e⟩
def Q6l(S:List ByteArray)(v:Int):Int:=S.foldr unT v
theorem Qen{s:ByteArray}(h:unB s=true):s=⟨#[45]⟩∨s=⟨#[126]⟩∨s=⟨#[33]⟩:=by
 unfold unB at h
 simp only[Bool.or_eq_true,decide_eq_true_eq]at h
 rcases h with(h|h) | h
 ·exact .inl h
 ·exact .inr (.inl h)
 ·exact .inr (.inr h)
theorem Qeu{s:ByteArray}(h:¬unB s=true):(s.toList == [45])=false∧(s.toList == [126])=false∧(s.toList == [33])=false:=by
 refine⟨?_,?_,?_⟩
 all_goals
  rw[beq_eq_false_iff_ne];intro e;apply h;rw[QXe e];decide
theorem QBq(s:ByteArray)(v:Int)(h0:0≤v)(h1:v≤4294967295):0≤unT s v∧unT s v≤4294967295:=by
 unfold unT
 split
 ·omega
 ·split
  ·omega
  ·unfold Qoi;split <;> omega
theorem Q7d(S:List ByteArray)(v:Int)(h0:0≤v)(h1:v≤4294967295):0≤Q6l S v∧Q6l S v≤4294967295:=by
 induction S with
 | nil=>exact⟨h0,h1⟩
 | cons s t ih=>exact QBq s _ ih.1 ih.2
theorem Qwr(S:List ByteArray)(v:Int)(m:Nat)(h:m<S.length):Q6l (S.drop m) v=unT S[m] (Q6l (S.drop (m+1)) v):=by
 rw[List.drop_eq_getElem_cons h];rfl
theorem Qxr(S:List ByteArray)(s:ByteArray)(v:Int):Q6l (S++[s]) v=Q6l S (unT s v):=by
 unfold Q6l;rw[List.foldr_append];rfl
theorem QZa.of{w w':World}{r:Nat}{L:List (Int × ByteArray × Int)}{lv:Value}{g:Nat}{bs:List Nat}{i d:Nat}{syn dp gr dv:Bool}(h1:QYj (fun x=>x≠r) w lv L)(h2:Qqg w g bs)(h3:g≠r)(h4:∀b∈bs,b≠r)
 (hL:L.length≤1000000000) (k:Qaa (fun b=>b=r) w w') (hH:Holds w' r #[lv,.slice (some ⟨g,0,none⟩) 10 10,.int .i64 i,.int .i64 d,.bool syn,.bool dp,.bool gr,.bool dv] 261) (hi:i≤L.length) (hd:d≤i):QZa w' r L i d syn dp gr dv:=
 ⟨lv,g,bs,hH,h1.keeps k (fun _ hg e=>hg e),h2.keeps k h3 h4,h3,h4,hi,hL,hd⟩
theorem Qft{L:List (Int × ByteArray × Int)}{d i:Nat}{r:Option (Int × Nat × Bool × Bool × Bool)}(hs:¬unB (Qkb L i)=true)(h:Rd L .prim d i r):Rd L .opnd d i r:=QEu (by simpa using hs) h
theorem Qec.val{r:Nat}{L:List (Int × ByteArray × Int)}{W:Wh}{d i:Nat}{dp gr dv:Bool}{w w':World}{e:Ending}(h:Qec r L W d i dp gr dv w e w'):∃v:Int,e = .returned (.int .u32 v)∧0≤v∧v≤4294967295∧Qaa (fun b=>b=r) w w':=by
 rcases h with⟨v,j,p,g,q,_,e,h0,h1,_,_,_,k⟩|⟨_,v,j,p,g,q,e,h0,h1,_,k⟩
 ·exact⟨v,e,h0,h1,k⟩
 ·exact⟨v,e,h0,h1,k⟩
theorem Qec.ops{r:Nat}{L:List (Int × ByteArray × Int)}{d i j:Nat}{dp gr dv:Bool}{w w1 w2 w':World}{v:Int}{S:List ByteArray}(h:Qec r L .prim d j dp gr dv w1 (.returned (.int .u32 v)) w2)
 (hb:∀res,Rd L .prim d j res→Rd L .opnd d i (res.map fun q=>(Q6l S q.1,q.2))) (kt:i≤j) (k:Qaa (fun b=>b=r) w w1) (k2:Qaa (fun _=>False) w2 w'):Qec r L .opnd d i dp gr dv w (.returned (.int .u32 (Q6l S v))) w':=by
 rcases h with⟨u,m,p,g,q,hr,e,h0,h1,hj,hm,ha,kk⟩|⟨hr,u,m,p,g,q,e,h0,h1,ha,kk⟩
 ·obtain rfl:v=u:=by injection e with e;injection e
  exact .inl ⟨_,m,p,g,q,hb _ hr,rfl,(Q7d S v h0 h1).1,(Q7d S v h0 h1).2,by omega,hm,ha.keeps k2,(k.trans kk (fun _ _ e=>e)).trans (Qcb k2) (fun _ _ e=>e)⟩
 ·obtain rfl:v=u:=by injection e with e;injection e
  exact .inr ⟨hb _ hr,_,m,p,g,q,rfl,(Q7d S v h0 h1).1,(Q7d S v h0 h1).2,ha.keeps k2,(k.trans kk (fun _ _ e=>e)).trans (Qcb k2) (fun _ _ e=>e)⟩
set_option maxRecDepth 100000 in
theorem QMh(r:Nat)(L:List (Int × ByteArray × Int))(d i0:Nat)(dp gr dv:Bool)(w:World)(h:QZa w r L i0 d false dp gr dv)
 (hP:∀j,i0≤j→∀w,QZa w r L j d false dp gr dv→Calls Tryz.prog 232 #[.pointer (some ⟨r,0,none⟩)] w (Qec r L .prim d j dp gr dv w)) :
 Calls Tryz.prog 257 #[.pointer (some ⟨r,0,none⟩)] w (Qec r L .opnd d i0 dp gr dv w):=by
 have Hr:=QDb r L i0 d false dp gr dv w h
 unfold Qvb at Hr
 simp only[Bool.false_eq_true,if_false]at Hr
 have HP:=hid hP;clear hP
 obtain⟨lv,g,bs,hH,t1,t2,t3,t4,t5,t6,t7⟩:=h
 have AY:∀(w':World) (i:Nat),Qaa (fun b=>b=r) w w'→Holds w' r #[lv,.slice (some ⟨g,0,none⟩) 10 10,.int .i64 i,.int .i64 d,.bool false,.bool dp,.bool gr,.bool dv] 261→i≤L.length→d≤i→QZa w' r L i d false dp gr dv:=fun w' i k hh hi hd=>QZa.of t1 t2 t3 t4 t6 k hh hi hd
 have M8:=hid AY
 have iR:=hH.lt
 clear t1 t2 t3 t4 AY
 go_enter Tryz.func257,Tryz.ntmps257
 go_wp2_with fail
 refine Hr.mono ?_
 rintro e w1 ⟨rfl,_,gz⟩
 have mb:=hH.keeps gz (fun e=>e)
 go_wp2_with fail
 go_loopg [3,4] (L.length-i0) (fun f x y wr=>∃(S:List ByteArray) (i:Nat),y = .string (Qkb L i)∧wr.ownsRow w.heap.size 9 1 x S.length (S.map .string)∧Hid (∀s∈S,unB s=true)∧
  Hid (∀res,Rd L .opnd d i res→Rd L .opnd d i0 (res.map fun q=>(Q6l S q.1,q.2)))∧Holds wr r #[lv,.slice (some ⟨g,0,none⟩) 10 10,.int .i64 i,.int .i64 d,.bool false,.bool dp,.bool gr,.bool dv] 261∧Qaa (fun b=>b=r) w wr∧Hid (S.length+i0=i)∧i≤L.length∧L.length≤i+f)
 case atStart=>exact⟨[],i0,rfl,World.ownsRow_nil _ _ _ _,hid (by simp),hid (fun res hr=>by cases res <;> exact hr),mb,Qcb gz,hid (by simp),by omega,by omega⟩
 case round=>
  obtain⟨S,i,rfl,Hj,hU,hB,fZ,pI,rs,G7,ab⟩:=hrel
  have H3:=pI.size
  by_cases hu:unB (Qkb L i)=true
  ·have kM:i+1≤L.length:=Q0g (by intro e;rw[e]at hu;exact absurd hu (by decide))
   have Kg:∀res,Rd L .opnd d (i+1) res→Rd L .opnd d i0 (res.map fun q=>(Q6l (S++[Qkb L i]) q.1,q.2)):=by
    intro res hr
    have:=hB.out _ (QFu hu hr)
    cases res with
    | none=>exact this
    | some q=>rw[Option.map_some,Qxr];exact this
   have ph:∀s∈S++[Qkb L i],unB s=true:=by
    intro s hs
    rcases List.mem_append.1 hs with hs|hs
    ·exact hU.out s hs
    ·simp only[List.mem_singleton]at hs;rw[hs];exact hu
   have GI:=hid Kg
   have oM:=hid ph
   clear Kg ph hB hU
   have xx:=rs.out
   have Jd:S.length≤1000000000:=by omega
   have pz:d≤i:=by omega
   clear xx
   have c2:=fZ.cell 2
   have f2:=fZ.free 2
   obtain⟨y0,hi,H4,Hp,gj⟩:=info_parts Qmr
   obtain⟨ao,co,rfl⟩:∃a c,u3 = .slice a S.length c:=Q5k Hj
   rcases Qen hu with hs|hs|hs
   ·rw[hs]at GI oM
    have HS:=hid hs
    rw[hs]
    clear hs hu
    go_wp2_with (at_builtin;refine wpList_append_own _ rfl _ _ 70 rfl w.heap.size 9 y0 (.string ⟨#[]⟩) 1 16 Tryz.underlying70 hi H4 Hp gj rfl (by decide) _ _ _ rfl (by exact World.ownsRow.alloc Hj _) ⟨wr.heap.size,0,none⟩ 1 1 [.string ⟨#[45]⟩] rfl rfl ?a1 ?a2 ?a3 ?a4 ?a5 ?_)
    case a1=>exact Q2a _ _ _ _ rfl _ rfl
    case a2=>intro u hu;simp at hu;rcases hu with rfl;rfl
    case a3=>unfold maxLen;omega
    case a4=>omega
    case a5=>simp;omega
    intro v' w3 Hg Hd _
    have Hy:Qaa (fun b=>b=r) w w3:=(pI.alloc _).grown Hd (fun g hg=>.inl (Hj.lt g hg).1)
    have j3:Qaa (fun b=>w.heap.size≤b) wr w3:=((Qaa.refl _ wr).alloc _).grown Hd (fun g hg=>.inr (Hj.lt g hg).1)
    have kh:=fZ.keeps j3 (by omega)
    have c3:=kh.cell 2
    have f3:=kh.free 2
    have l3:=kh.lt
    have jD:=kh.set 2 (.int .i64 ((i:Int)+1))
    have gA:=Hy.setCell (p:=⟨r,2,none⟩) (.inr rfl) (.int .i64 ((i:Int)+1))
    have mL:=QDb r L (i+1) d false dp gr dv _ (M8.out _ (i+1) gA (by rw[show(((i+1:Nat)):Int)=(i:Int)+1 from by omega];exact jD) kM (by omega))
    unfold Qvb at mL
    simp only[Bool.false_eq_true,if_false]at mL
    have gv:=ownsRow_setCell_below Hg (a:=⟨r,2,none⟩) iR (.int .i64 ((i:Int)+1))
    have gI:=hid gv
    have fF:=hid jD
    have M7:=hid gA
    clear Hd Hg gv jD gA kh j3 Hy
    go_wp2_with fail
    refine mL.mono ?_
    rintro e w5 ⟨rfl,_,Gl⟩
    go_wp2_with fail
    go_roundg (gk-1)
    case measure=>omega
    case rel=>
     refine⟨S++[⟨#[45]⟩],i+1,rfl,?_,oM,GI,?_,M7.out.trans (Qcb Gl) (fun _ _ e=>e),hid ?_,kM,by omega⟩
     ·have:=Qca gI.out Gl (fun _ _ e=>e)
      rw[List.length_append,List.map_append];exact this
     ·rw[show(((i+1:Nat)):Int)=(i:Int)+1 from by omega];exact fF.out.keeps Gl (fun e=>e)
     ·show _=_
      rw[List.length_append,←rs.out];simp;omega
   ·rw[hs]at GI oM
    have HS:=hid hs
    rw[hs]
    clear hs hu
    go_wp2_with (at_builtin;refine wpList_append_own _ rfl _ _ 70 rfl w.heap.size 9 y0 (.string ⟨#[]⟩) 1 16 Tryz.underlying70 hi H4 Hp gj rfl (by decide) _ _ _ rfl (by exact World.ownsRow.alloc Hj _) ⟨wr.heap.size,0,none⟩ 1 1 [.string ⟨#[126]⟩] rfl rfl ?b1 ?b2 ?b3 ?b4 ?b5 ?_)
    case b1=>exact Q2a _ _ _ _ rfl _ rfl
    case b2=>intro u hu;simp at hu;rcases hu with rfl;rfl
    case b3=>unfold maxLen;omega
    case b4=>omega
    case b5=>simp;omega
    intro v' w3 Hg Hd _
    have Hy:Qaa (fun b=>b=r) w w3:=(pI.alloc _).grown Hd (fun g hg=>.inl (Hj.lt g hg).1)
    have j3:Qaa (fun b=>w.heap.size≤b) wr w3:=((Qaa.refl _ wr).alloc _).grown Hd (fun g hg=>.inr (Hj.lt g hg).1)
    have kh:=fZ.keeps j3 (by omega)
    have c3:=kh.cell 2
    have f3:=kh.free 2
    have l3:=kh.lt
    have jD:=kh.set 2 (.int .i64 ((i:Int)+1))
    have gA:=Hy.setCell (p:=⟨r,2,none⟩) (.inr rfl) (.int .i64 ((i:Int)+1))
    have mL:=QDb r L (i+1) d false dp gr dv _ (M8.out _ (i+1) gA (by rw[show(((i+1:Nat)):Int)=(i:Int)+1 from by omega];exact jD) kM (by omega))
    unfold Qvb at mL
    simp only[Bool.false_eq_true,if_false]at mL
    have gv:=ownsRow_setCell_below Hg (a:=⟨r,2,none⟩) iR (.int .i64 ((i:Int)+1))
    have gI:=hid gv
    have fF:=hid jD
    have M7:=hid gA
    clear Hd Hg gv jD gA kh j3 Hy
    go_wp2_with fail
    refine mL.mono ?_
    rintro e w5 ⟨rfl,_,Gl⟩
    go_wp2_with fail
    go_roundg (gk-1)
    case measure=>omega
    case rel=>
     refine⟨S++[⟨#[126]⟩],i+1,rfl,?_,oM,GI,?_,M7.out.trans (Qcb Gl) (fun _ _ e=>e),hid ?_,kM,by omega⟩
     ·have:=Qca gI.out Gl (fun _ _ e=>e)
      rw[List.length_append,List.map_append];exact this
     ·rw[show(((i+1:Nat)):Int)=(i:Int)+1 from by omega];exact fF.out.keeps Gl (fun e=>e)
     ·show _=_
      rw[List.length_append,←rs.out];simp;omega
   ·rw[hs]at GI oM
    have HS:=hid hs
    rw[hs]
    clear hs hu
    go_wp2_with (at_builtin;refine wpList_append_own _ rfl _ _ 70 rfl w.heap.size 9 y0 (.string ⟨#[]⟩) 1 16 Tryz.underlying70 hi H4 Hp gj rfl (by decide) _ _ _ rfl (by exact World.ownsRow.alloc Hj _) ⟨wr.heap.size,0,none⟩ 1 1 [.string ⟨#[33]⟩] rfl rfl ?c1 ?c2 ?c3 ?c4 ?c5 ?_)
    case c1=>exact Q2a _ _ _ _ rfl _ rfl
    case c2=>intro u hu;simp at hu;rcases hu with rfl;rfl
    case c3=>unfold maxLen;omega
    case c4=>omega
    case c5=>simp;omega
    intro v' w3 Hg Hd _
    have Hy:Qaa (fun b=>b=r) w w3:=(pI.alloc _).grown Hd (fun g hg=>.inl (Hj.lt g hg).1)
    have j3:Qaa (fun b=>w.heap.size≤b) wr w3:=((Qaa.refl _ wr).alloc _).grown Hd (fun g hg=>.inr (Hj.lt g hg).1)
    have kh:=fZ.keeps j3 (by omega)
    have c3:=kh.cell 2
    have f3:=kh.free 2
    have l3:=kh.lt
    have jD:=kh.set 2 (.int .i64 ((i:Int)+1))
    have gA:=Hy.setCell (p:=⟨r,2,none⟩) (.inr rfl) (.int .i64 ((i:Int)+1))
    have mL:=QDb r L (i+1) d false dp gr dv _ (M8.out _ (i+1) gA (by rw[show(((i+1:Nat)):Int)=(i:Int)+1 from by omega];exact jD) kM (by omega))
    unfold Qvb at mL
    simp only[Bool.false_eq_true,if_false]at mL
    have gv:=ownsRow_setCell_below Hg (a:=⟨r,2,none⟩) iR (.int .i64 ((i:Int)+1))
    have gI:=hid gv
    have fF:=hid jD
    have M7:=hid gA
    clear Hd Hg gv jD gA kh j3 Hy
    go_wp2_with fail
    refine mL.mono ?_
    rintro e w5 ⟨rfl,_,Gl⟩
    go_wp2_with fail
    go_roundg (gk-1)
    case measure=>omega
    case rel=>
     refine⟨S++[⟨#[33]⟩],i+1,rfl,?_,oM,GI,?_,M7.out.trans (Qcb Gl) (fun _ _ e=>e),hid ?_,kM,by omega⟩
     ·have:=Qca gI.out Gl (fun _ _ e=>e)
      rw[List.length_append,List.map_append];exact this
     ·rw[show(((i+1:Nat)):Int)=(i:Int)+1 from by omega];exact fF.out.keeps Gl (fun e=>e)
     ·show _=_
      rw[List.length_append,←rs.out];simp;omega
  ·obtain⟨n1,n2,n3⟩:=Qeu hu
   have Kg:∀res,Rd L .prim d i res→Rd L .opnd d i0 (res.map fun q=>(Q6l S q.1,q.2)):=fun res hr=>hB.out res (Qft hu hr)
   have GI:=hid Kg
   have xx:=rs.out
   have pG:i0≤i:=by omega
   have Jd:S.length≤1000000000:=by omega
   have ku:=HP.out i pG wr (M8.out wr i pI fZ G7 (by omega))
   clear Kg hB xx hu
   generalize Qkb L i=t at *
   obtain⟨ao2,co,rfl⟩:∃a c,u3 = .slice a S.length c:=Q5k Hj
   go_wp2_with fail
   refine ku.mono ?_
   rintro e w2 km
   obtain⟨v,rfl,kU,Kc,gJ⟩:=km.val
   have mu:=hid km
   have Ho:=Qca Hj gJ (fun b hb e=>by have:=(Hj.lt b hb).1;omega)
   have yF:IntKind.i64.wrap ((S.length:Int)-1)=(S.length:Int)-1:=IntWalk.i64_in _ (by omega)
   clear km Hj ku
   go_wp2_with fail
   obtain⟨wo,rfl⟩:∃x:World,x=wr:=⟨_,rfl⟩
   obtain⟨go,rfl⟩:∃x:Nat,x=gk:=⟨_,rfl⟩
   go_loopg [5,6] S.length (fun f x y wr=>∃m:Nat,m=f∧m≤S.length∧x = .int .u32 (Q6l (S.drop m) v)∧y = .int .i64 ((m:Int)-1)∧w2=wr)
   case atStart=>exact⟨S.length,rfl,Nat.le_refl _,by rw[List.drop_of_length_le (Nat.le_refl _)];rfl,rfl,rfl⟩
   case round=>
    obtain⟨m,rfl,hm,rfl,rfl,rfl⟩:=hrel
    cases m with
    | zero=>
     rw[List.drop_zero]
     generalize hz:Q6l S v=z
     go_wp2_with fail
     go_ret
     rw[←hz]
     exact mu.out.ops GI.out pG pI (Qaa.refl _ _)
    | succ m=>
     rw[show(((m+1:Nat):Int)-1)=(m:Int)from by omega]
     have hm':m<S.length:=by omega
     have vz:=Q7d (S.drop (m+1)) v kU Kc
     have vA:=hU.out S[m] (List.getElem_mem hm')
     have kE:=Qwr S v m hm'
     obtain⟨gs,zu,nX⟩:∃gs:Nat,ao2=some ⟨gs,0,none⟩∧w2.cell? ⟨gs,m,none⟩=some (.string S[m]):=by
      rcases Ho.2 with⟨_,h0⟩|⟨gs,cap,cur,e,_⟩
      ·omega
      ·cases e
       refine⟨gs,rfl,?_⟩
       rw[Ho.cellAt m (by omega)];simp[hm']
     subst zu
     have jS:=hid kE
     have mT:=hid Ho
     clear kE Ho
     generalize Q6l (S.drop (m+1)) v=u at *
     have C8:(m:Int)<(S.length:Int):=by omega
     have vj:IntKind.i64.wrap ((m:Int)-1)=(m:Int)-1:=IntWalk.i64_in _ (by omega)
     rcases Qen vA with hs|hs|hs
     ·rw[hs]at nX
      have HS:=hid hs
      clear hs vA
      go_wp2_with fail
      go_roundg m
      case measure=>omega
      case rel=>exact⟨m,rfl,by omega,by rw[jS.out,HS.out];rfl,rfl,rfl⟩
     ·rw[hs]at nX
      have HS:=hid hs
      clear hs vA
      go_wp2_with fail
      go_roundg m
      case measure=>omega
      case rel=>exact⟨m,rfl,by omega,by rw[jS.out,HS.out,Qrt u vz.1 vz.2];rfl,rfl,rfl⟩
     ·rw[hs]at nX
      have HS:=hid hs
      clear hs vA
      go_wp2_with fail
      refine(Qhe _ _).mono ?_
      rintro e w' ⟨rfl,rfl⟩
      go_wp2_with fail
      go_roundg m
      case measure=>omega
      case rel=>exact⟨m,rfl,by omega,by rw[jS.out,HS.out];rfl,rfl,rfl⟩
theorem Q4r(x:Int):0≤IntKind.u32.wrap x∧IntKind.u32.wrap x≤4294967295:=by
 have:IntKind.u32.wrap x=x % 4294967296:=rfl
 rw[this];omega
theorem Qqn(h:Bool):0≤Qoi h∧Qoi h≤4294967295:=by unfold Qoi;split <;> omega
theorem Q2e(f:Nat)(a b:Int)(ha:0≤a)(gS:a≤4294967295)(hb:0≤b)(Hb:b≤4294967295):0≤Qml f a b∧Qml f a b≤4294967295:=by
 have hd:0≤a / b∧a / b≤4294967295:=by
  refine⟨Int.ediv_nonneg ha hb,?_⟩
  have:=Int.ediv_le_self b ha;omega
 have hm:0≤a % b∧a % b≤4294967295:=by
  by_cases h:b=0
  ·subst h;rw[Int.emod_zero];exact⟨ha,gS⟩
  ·have h1:=Int.emod_nonneg a h
   have h2:=Int.emod_lt_of_pos a (show 0<b by omega)
   omega
 have hs:0≤a / 2 ^ min b.toNat 32∧a / 2 ^ min b.toNat 32≤4294967295:=by
  have h2:(0:Int)≤2 ^ min b.toNat 32:=Int.pow_nonneg (by omega)
  refine⟨Int.ediv_nonneg ha h2,?_⟩
  have:=Int.ediv_le_self (2 ^ min b.toNat 32) ha;omega
 unfold Qml
 split
 any_goals exact Qqn _
 any_goals exact Q4r _
 any_goals assumption
 any_goals omega
theorem QXq(f:Nat)(h1:1≤f)(h2:f≤18):∃n,fnT f = .func (.func n) #[] #[]∧(∀(args:Array Value) (w:World),Sem.run Tryz.prog (callFunc n args) w = .ok (.enter n args) w)∧∀(a b:Int) (w:World),0≤a→a≤4294967295→0≤b→b≤4294967295→((f=2∨f=3)→1≤b)→
 Calls Tryz.prog n #[.int .u32 a,.int .u32 b] w (QMb f a b w):=by
 match f,h1,h2 with
 | 1,_,_=>exact⟨_,rfl,by intro args w;kernel_rfl,fun a b w ha gS hb Hb _=>QEt a b w ha gS hb Hb⟩
 | 2,_,_=>exact⟨_,rfl,by intro args w;kernel_rfl,fun a b w ha gS hb Hb h=>QFt a b w ha gS (h (by simp)) Hb⟩
 | 3,_,_=>exact⟨_,rfl,by intro args w;kernel_rfl,fun a b w ha gS hb Hb h=>QGt a b w ha gS (h (by simp)) Hb⟩
 | 4,_,_=>exact⟨_,rfl,by intro args w;kernel_rfl,fun a b w ha gS hb Hb _=>QHt a b w ha gS hb Hb⟩
 | 5,_,_=>exact⟨_,rfl,by intro args w;kernel_rfl,fun a b w ha gS hb Hb _=>QIt a b w ha gS hb Hb⟩
 | 6,_,_=>exact⟨_,rfl,by intro args w;kernel_rfl,fun a b w ha gS hb Hb _=>QJt a b w ha gS hb Hb⟩
 | 7,_,_=>exact⟨_,rfl,by intro args w;kernel_rfl,fun a b w ha gS hb Hb _=>QKt a b w ha gS hb Hb⟩
 | 8,_,_=>exact⟨_,rfl,by intro args w;kernel_rfl,fun a b w ha gS hb Hb _=>QLt a b w ha gS hb Hb⟩
 | 9,_,_=>exact⟨_,rfl,by intro args w;kernel_rfl,fun a b w ha gS hb Hb _=>QMt a b w ha gS hb Hb⟩
 | 10,_,_=>exact⟨_,rfl,by intro args w;kernel_rfl,fun a b w ha gS hb Hb _=>QEs a b w ha gS hb Hb⟩
 | 11,_,_=>exact⟨_,rfl,by intro args w;kernel_rfl,fun a b w ha gS hb Hb _=>QFs a b w ha gS hb Hb⟩
 | 12,_,_=>exact⟨_,rfl,by intro args w;kernel_rfl,fun a b w ha gS hb Hb _=>QGs a b w ha gS hb Hb⟩
 | 13,_,_=>exact⟨_,rfl,by intro args w;kernel_rfl,fun a b w ha gS hb Hb _=>QHs a b w ha gS hb Hb⟩
 | 14,_,_=>exact⟨_,rfl,by intro args w;kernel_rfl,fun a b w ha gS hb Hb _=>QIs a b w ha gS hb Hb⟩
 | 15,_,_=>exact⟨_,rfl,by intro args w;kernel_rfl,fun a b w ha gS hb Hb _=>QJs a b w ha gS hb Hb⟩
 | 16,_,_=>exact⟨_,rfl,by intro args w;kernel_rfl,fun a b w ha gS hb Hb _=>QKs a b w ha gS hb Hb⟩
 | 17,_,_=>exact⟨_,rfl,by intro args w;kernel_rfl,fun a b w ha gS hb Hb _=>QLs a b w ha gS hb Hb⟩
 | 18,_,_=>exact⟨_,rfl,by intro args w;kernel_rfl,fun a b w ha gS hb Hb _=>QMs a b w ha gS hb Hb⟩
 | _+19,_,h=>exact absurd h (by omega)
theorem Qfq:∀k,k<10→∀p∈Q8d.getD k [],1≤p.2∧p.2≤18∧(p.2=2↔p.1=⟨#[47]⟩)∧(p.2=3↔p.1=⟨#[37]⟩):=by decide
theorem Qmo{k:Nat}(hk:k<10){s:ByteArray}{f:Nat}(h:QJj k s=some f):1≤f∧f≤18∧(f=2↔s=⟨#[47]⟩)∧(f=3↔s=⟨#[37]⟩):=by
 unfold QJj at h
 obtain⟨p,hp,e⟩:=Option.map_eq_some_iff.1 h
 have h1:=List.mem_of_find?_eq_some hp
 have h2:=List.find?_some hp
 simp only[decide_eq_true_eq]at h2
 rw[←h2,←e]
 exact Qfq k hk p h1
theorem Qjh{r:Nat}{L:List (Int × ByteArray × Int)}{k d i0 i f:Nat}{u v:Int}{dp gr dv p g q:Bool}{w2 w3 w4:World}(hi:i0<i)(Ho:QJj k (Qkb L i)=some f)
 (hB:∀res,Rd L (.loop k v) d i res→Rd L (.lvl (k+1)) d i0 (res.map fun y=>(y.1,y.2.1,orF (p,g,q) y.2.2)))
 (hw:∀(j:Nat) (syn dp gr dv:Bool),QZa w3 r L j d syn dp gr dv→QZa w4 r L j d syn dp gr (dv || QCl f u))
 (h:Qec r L (.lvl k) d (i+1) (dp || p) (gr || g) (dv || q) w2 (.returned (.int .u32 u)) w3) :
 (∃(i':Nat) (p g q:Bool),i<i'∧i'≤L.length∧QZa w4 r L i' d false (dp || p) (gr || g) (dv || q)∧Hid (∀res,Rd L (.loop k (Qml f v (if QCl f u=true then 1 else u))) d i' res→Rd L (.lvl (k+1)) d i0 (res.map fun y=>(y.1,y.2.1,orF (p,g,q) y.2.2))))∨
  (Hid (Rd L (.lvl (k+1)) d i0 none)∧∃(i:Nat) (p g q:Bool),QZa w4 r L i d true p g q):=by
 rcases h with⟨u',j,p2,g2,q2,Gf,e,_,_,hj,hm,ha,_⟩|⟨Gf,u',j,p2,g2,q2,e,_,_,ha,_⟩
 ·obtain rfl:u=u':=by injection e with e;injection e
  refine .inl ⟨j,p || p2,g || g2,q || q2 || QCl f u,by omega,hm,?_,hid ?_⟩
  ·have:=hw _ _ _ _ _ ha
   simpa[Bool.or_assoc]using this
  ·intro res hr
   have:=hB _ (Qet Ho Gf hr)
   cases res with
   | none=>exact this
   | some y=>
    simp only[Option.map_some]at this ⊢
    simpa[orF,Bool.or_assoc]using this
 ·obtain rfl:u=u':=by injection e with e;injection e
  exact .inr ⟨hid (hB _ (QRk Ho Gf)),j,p2,g2,q2 || QCl f u,hw _ _ _ _ _ ha⟩
set_option maxRecDepth 100000 in
theorem Qui(r:Nat)(L:List (Int × ByteArray × Int))(d i0 k:Nat)(hk:k<10)(dp gr dv:Bool)(w:World)(h:QZa w r L i0 d false dp gr dv)
 (hL:∀j,i0≤j→∀(dp gr dv:Bool) (w:World),QZa w r L j d false dp gr dv→Calls Tryz.prog 256 #[.pointer (some ⟨r,0,none⟩),.int .i64 ((k:Int)-1)] w (Qec r L (.lvl k) d j dp gr dv w)) :
 Calls Tryz.prog 256 #[.pointer (some ⟨r,0,none⟩),.int .i64 (k:Int)] w (Qec r L (.lvl (k+1)) d i0 dp gr dv w):=by
 have ho:=hL i0 (Nat.le_refl _) dp gr dv w h
 have HL:=hid hL
 have gz:¬((k:Int)<0):=by omega
 have gJ:IntKind.i64.wrap ((k:Int)-1)=(k:Int)-1:=IntWalk.i64_in _ (by omega)
 have GF:(0:Int)≤(k:Int):=by omega
 have Ml:(k:Int)<10:=by omega
 have sJ:((k:Int)).toNat=k:=by omega
 have HK:=hid hk
 clear hL hk h
 go_enter Tryz.func256,Tryz.ntmps256
 go_wp2_with fail
 refine ho.mono ?_
 rintro e w1 km
 obtain⟨v0,rfl,kU,Kc,vg⟩:=km.val
 have kE:(∃(v i:Int) ,v=0∧i=0):=⟨0,0,rfl,rfl⟩
 clear kE
 have mu:=hid km
 clear km
 go_wp2_with fail
 go_loopg [5] (L.length+1) (fun f x wr=>∃v:Int,x = .int .u32 v∧0≤v∧v≤4294967295∧Qaa (fun b=>b=r) w wr∧
  ((∃(i:Nat) (p g q:Bool),i0<i∧i≤L.length∧L.length+1≤i+f∧QZa wr r L i d false (dp || p) (gr || g) (dv || q)∧Hid (∀res,Rd L (.loop k v) d i res→Rd L (.lvl (k+1)) d i0 (res.map fun y=>(y.1,y.2.1,orF (p,g,q) y.2.2))))∨
   (Hid (Rd L (.lvl (k+1)) d i0 none)∧∃(i:Nat) (p g q:Bool),QZa wr r L i d true p g q)))
 case atStart=>
  refine⟨v0,rfl,kU,Kc,vg,?_⟩
  rcases mu.out with⟨v,j,p,g,q,Gf,e,_,_,hj,hm,ha,_⟩|⟨Gf,v,j,p,g,q,e,_,_,ha,_⟩
  ·obtain rfl:v0=v:=by injection e with e;injection e
   exact .inl ⟨j,p,g,q,hj,hm,by omega,ha,hid (fun res hr=>Q7t Gf hr)⟩
  ·exact .inr ⟨hid (Qdm Gf),j,p,g,q,ha⟩
 case round=>
  obtain⟨v,rfl,kU,Kc,K8,Km⟩:=hrel
  rcases Km with⟨i,p,g,q,Kp,G7,ab,hr,hB⟩|⟨hN,i,p,g,q,hr⟩
  ·have Hr:=QDb r L i d false (dp || p) (gr || g) (dv || q) wr hr
   unfold Qvb at Hr
   simp only[Bool.false_eq_true,if_false]at Hr
   clear hr
   cases Ho:QJj k (Qkb L i)with
   | none=>
    have Hn:=hB.out _ (Qcm (d:=d) (v:=v) Ho)
    go_wp2_with fail
    refine Hr.mono ?_
    rintro e w2 ⟨rfl,gd,kC⟩
    obtain⟨gt,m,z,c1,cm,hl⟩:=gd.look k HK.out (Qkb L i) (Qbn gd i)
    rw[Ho]at hl
    simp only[Option.isSome_none]at hl
    have rl:=gd.cells.2.2.2.2.2.2.2.2.2.2.2.2.1
    have Mt:=hid gd
    have HF:=hid Hn
    clear gd Ho Hn
    generalize Qkb L i=t at *
    go_wp2_with fail
    go_ret
    refine .inl ⟨v,i,p,g,q,?_,rfl,kU,Kc,Kp,G7,Mt.out,K8.trans (Qcb kC) (fun _ _ e=>e)⟩
    have:=HF.out
    simpa[orF,noF]using this
   | some f=>
    obtain⟨C2,Jv,Mj,Bq⟩:=Qmo HK.out Ho
    have kM:i+1≤L.length:=Q0g (by intro e;rw[e,Qph k HK.out]at Ho;exact absurd Ho (by simp))
    obtain⟨n,iv,eH,rH⟩:=QXq f C2 Jv
    have di:=hid rH
    clear rH
    have iP:=Ho
    have mT:=hid iP
    clear iP
    go_wp2_with fail
    refine Hr.mono ?_
    rintro e w2 ⟨rfl,gd,kC⟩
    obtain⟨gt,m,z,c1,cm,hl⟩:=gd.look k HK.out (Qkb L i) (Qbn gd i)
    rw[Ho]at hl
    simp only[Option.isSome_some,iv]at hl
    obtain⟨c2,_,_,_,_,_,f2,_,_,_,_,_,rl,_,_,_⟩:=gd.cells
    obtain⟨MG,bU⟩:=gd.on kM
    have ag:=HL.out (i+1) (by omega) _ _ _ _ MG
    clear gd MG Ho Hr
    have fB:=hid Mj
    have fC:=hid Bq
    clear Mj Bq
    have hS:∃t,t=Qkb L i:=⟨_,rfl⟩
    obtain⟨t,ht⟩:=hS
    rw[←ht]at hl
    have HT:=hid ht
    rw[←ht]
    clear ht
    go_wp2_with fail
    refine ag.mono ?_
    rintro e w3 km
    obtain⟨u,rfl,M3,JH,j5⟩:=km.val
    have mu:=hid km
    have sM:=((K8.trans (Qcb kC) (fun _ _ e=>e)).trans bU (fun _ _ e=>e)).trans j5 (fun _ _ e=>e)
    have dD:=hid sM
    have pP:∃(j:Nat) (s2 p2 g2 q2:Bool),QZa w3 r L j d s2 p2 g2 q2:=by
     rcases mu.out with⟨_,j,_,_,_,_,_,_,_,_,_,ha,_⟩|⟨_,_,j,_,_,_,_,_,_,ha,_⟩
     ·exact⟨_,_,_,_,_,ha⟩
     ·exact⟨_,_,_,_,_,ha⟩
    obtain⟨jx,sx,px,gx,qx,pP⟩:=pP
    have c7:=pP.cells.2.2.2.2.2.1
    have f7:=pP.cells.2.2.2.2.2.2.2.2.2.2.2.1
    have rl3:=pP.cells.2.2.2.2.2.2.2.2.2.2.2.2.1
    clear km sM pP ag kC bU j5 K8 c1 cm hl c2 f2
    by_cases hz:u=0
    ·by_cases Jo:t=⟨#[47]⟩
     ·subst hz
      subst Jo
      have m9:f=2:=fB.out.2 HT.out.symm
      have aB:QCl f 0=true:=by rw[m9];rfl
      clear m9
      have hn:=Qjh Kp mT.out hB.out (w4:=w3.setCell ⟨r,7,none⟩ (.bool true)) (fun j syn dp gr dv hh=>by
       rw[aB,Bool.or_true]
       exact(hh.put 7 (.bool true) (i':=j) (d':=d) (syn':=syn) (dp':=dp) (gr':=gr) (dv':=true) hh.cells.2.2.2.2.2.2.2.2.2.2.2.2.2.1 hh.cells.2.2.2.2.2.2.2.2.2.2.2.2.2.2.2 (fun _ _=>rfl)).1) mu.out
      rw[if_pos aB]at hn
      have M9:=hid hn
      have kH:=hid (dD.out.setCell (p:=⟨r,7,none⟩) (.inr rfl) (.bool true))
      clear hn hB
      have me:=Q2e f v 1 kU Kc (by omega) (by omega)
      go_wp2_with fail
      refine(di.out v 1 _ kU Kc (by omega) (by omega) (fun _=>by omega)).mono ?_
      rintro e w5 ⟨rfl,rfl⟩
      go_wp2_with fail
      go_roundg (gk-1)
      case measure=>omega
      case rel=>
       refine⟨_,rfl,me.1,me.2,kH.out,?_⟩
       rcases M9.out with⟨i',p',g',q',e1,e2,e3,e4⟩|e
       ·exact .inl ⟨i',p',g',q',by omega,e2,by omega,e3,e4⟩
       ·exact .inr e
     ·by_cases wI:t=⟨#[37]⟩
      ·subst hz
       subst wI
       have m9:f=3:=fC.out.2 HT.out.symm
       have aB:QCl f 0=true:=by rw[m9];rfl
       clear m9
       have hn:=Qjh Kp mT.out hB.out (w4:=w3.setCell ⟨r,7,none⟩ (.bool true)) (fun j syn dp gr dv hh=>by
        rw[aB,Bool.or_true]
        exact(hh.put 7 (.bool true) (i':=j) (d':=d) (syn':=syn) (dp':=dp) (gr':=gr) (dv':=true) hh.cells.2.2.2.2.2.2.2.2.2.2.2.2.2.1 hh.cells.2.2.2.2.2.2.2.2.2.2.2.2.2.2.2 (fun _ _=>rfl)).1) mu.out
       rw[if_pos aB]at hn
       have M9:=hid hn
       have kH:=hid (dD.out.setCell (p:=⟨r,7,none⟩) (.inr rfl) (.bool true))
       clear hn hB
       have me:=Q2e f v 1 kU Kc (by omega) (by omega)
       go_wp2_with fail
       refine(di.out v 1 _ kU Kc (by omega) (by omega) (fun _=>by omega)).mono ?_
       rintro e w5 ⟨rfl,rfl⟩
       go_wp2_with fail
       go_roundg (gk-1)
       case measure=>omega
       case rel=>
        refine⟨_,rfl,me.1,me.2,kH.out,?_⟩
        rcases M9.out with⟨i',p',g',q',e1,e2,e3,e4⟩|e
        ·exact .inl ⟨i',p',g',q',by omega,e2,by omega,e3,e4⟩
        ·exact .inr e
      ·subst hz
       have n1:(t.toList == [47])=false:=by rw[beq_eq_false_iff_ne];intro e;exact Jo (QXe e)
       have n2:(t.toList == [37])=false:=by rw[beq_eq_false_iff_ne];intro e;exact wI (QXe e)
       have sd:f≠2:=fun e=>Jo (HT.out.trans (fB.out.1 e))
       have se:f≠3:=fun e=>wI (HT.out.trans (fC.out.1 e))
       have aB:QCl f 0=false:=by unfold QCl;simp[sd,se]
       have hn:=Qjh Kp mT.out hB.out (w4:=w3) (fun j syn dp gr dv hh=>by rw[aB,Bool.or_false];exact hh) mu.out
       rw[if_neg (by rw[aB];simp)]at hn
       have M9:=hid hn
       clear hn hB
       have me:=Q2e f v 0 kU Kc M3 JH
       go_wp2_with fail
       refine(di.out v 0 w3 kU Kc M3 JH (by rintro (e|e);exact absurd e sd;exact absurd e se)).mono ?_
       rintro e w5 ⟨rfl,rfl⟩
       go_wp2_with fail
       go_roundg (gk-1)
       case measure=>omega
       case rel=>
        refine⟨_,rfl,me.1,me.2,dD.out,?_⟩
        rcases M9.out with⟨i',p',g',q',e1,e2,e3,e4⟩|e
        ·exact .inl ⟨i',p',g',q',by omega,e2,by omega,e3,e4⟩
        ·exact .inr e
    ·have bX:(u == 0)=false:=by simpa using hz
     have aB:QCl f u=false:=by unfold QCl;rw[bX];rfl
     have hn:=Qjh Kp mT.out hB.out (w4:=w3) (fun j syn dp gr dv hh=>by rw[aB,Bool.or_false];exact hh) mu.out
     rw[if_neg (by rw[aB];simp)]at hn
     have M9:=hid hn
     clear hn hB
     have me:=Q2e f v u kU Kc M3 JH
     go_wp2_with fail
     refine(di.out v u w3 kU Kc M3 JH (by intro _;omega)).mono ?_
     rintro e w5 ⟨rfl,rfl⟩
     go_wp2_with fail
     go_roundg (gk-1)
     case measure=>omega
     case rel=>
      refine⟨_,rfl,me.1,me.2,dD.out,?_⟩
      rcases M9.out with⟨i',p',g',q',e1,e2,e3,e4⟩|e
      ·exact .inl ⟨i',p',g',q',by omega,e2,by omega,e3,e4⟩
      ·exact .inr e
  ·have Hr:=QDb r L i d true p g q wr hr
   unfold Qvb at Hr
   rw[if_pos rfl]at Hr
   clear hr
   go_wp2_with fail
   refine Hr.mono ?_
   rintro e w2 ⟨rfl,gd,kC⟩
   obtain⟨gt,m,z,c1,cm,hl⟩:=gd.look k HK.out ⟨#[]⟩ (Nat.zero_le _)
   rw[Qph k HK.out]at hl
   simp only[Option.isSome_none]at hl
   have rl:=gd.cells.2.2.2.2.2.2.2.2.2.2.2.2.1
   have Mt:=hid gd
   clear gd
   go_wp2_with fail
   go_ret
   exact .inr ⟨hN.out,v,i,p,g,q,rfl,kU,Kc,Mt.out,K8.trans (Qcb kC) (fun _ _ e=>e)⟩
theorem QDn(r:Nat)(L:List (Int × ByteArray × Int))(d i:Nat)(dp gr dv:Bool)(w:World)
 (ho:Calls Tryz.prog 257 #[.pointer (some ⟨r,0,none⟩)] w (Qec r L .opnd d i dp gr dv w)) :
 Calls Tryz.prog 256 #[.pointer (some ⟨r,0,none⟩),.int .i64 (-1)] w (Qec r L (.lvl 0) d i dp gr dv w):=by
 go_enter Tryz.func256,Tryz.ntmps256
 go_wp2_with fail
 refine ho.mono ?_
 rintro e w2 km
 obtain⟨v,rfl,_,_,_⟩:=km.val
 have mu:=hid km
 clear km
 go_wp2_with fail
 go_ret
 rcases mu.out with⟨u,j,p,g,q,Gf,rest⟩|⟨Gf,rest⟩
 ·exact .inl ⟨u,j,p,g,q,Qbq Gf,rest⟩
 ·exact .inr ⟨Qbq Gf,rest⟩
theorem Qjk(r:Nat)(L:List (Int × ByteArray × Int))(d i0:Nat)
 (hO:∀j,i0≤j→∀(dp gr dv:Bool) (w:World),QZa w r L j d false dp gr dv→Calls Tryz.prog 257 #[.pointer (some ⟨r,0,none⟩)] w (Qec r L .opnd d j dp gr dv w)) :
 ∀(k:Nat),k≤10→∀j,i0≤j→∀(dp gr dv:Bool) (w:World),QZa w r L j d false dp gr dv→
  Calls Tryz.prog 256 #[.pointer (some ⟨r,0,none⟩),.int .i64 ((k:Int)-1)] w (Qec r L (.lvl k) d j dp gr dv w):=by
 intro k
 induction k with
 | zero=>intro _ j hj dp gr dv w h;exact QDn r L d j dp gr dv w (hO j hj dp gr dv w h)
 | succ k ih=>
  intro hk j hj dp gr dv w h
  rw[show(((k+1:Nat):Int)-1)=(k:Int)from by omega]
  exact Qui r L d j k (by omega) dp gr dv w h (fun j' hj'=>ih (by omega) j' (by omega))
set_option maxRecDepth 100000 in
theorem Qkk(r:Nat)(L:List (Int × ByteArray × Int))(d i0:Nat)(dp gr dv:Bool)(w:World)(h:QZa w r L i0 d false dp gr dv)
 (hV:Calls Tryz.prog 256 #[.pointer (some ⟨r,0,none⟩),.int .i64 9] w (Qec r L (.lvl 10) d i0 dp gr dv w))
 (hW:∀j,i0<j→∀(dp gr dv:Bool) (w:World),QZa w r L j d false dp gr dv→Calls Tryz.prog 235 #[.pointer (some ⟨r,0,none⟩)] w (Qec r L .whole d j dp gr dv w)) :
 Calls Tryz.prog 235 #[.pointer (some ⟨r,0,none⟩)] w (Qec r L .whole d i0 dp gr dv w):=by
 obtain⟨gt,m,z,c1,cm,hl⟩:=h.look 0 (by omega) ⟨#[]⟩ (Nat.zero_le _)
 have rl:=h.cells.2.2.2.2.2.2.2.2.2.2.2.2.1
 have HW:=hid hW
 clear h cm hl hW
 go_enter Tryz.func235,Tryz.ntmps235
 go_wp2_with fail
 refine hV.mono ?_
 clear hV c1
 rintro e w1 (⟨v,j,p,g,q,Gf,rfl,kU,Kc,iy,iz,Hx,MD⟩|⟨Gf,v,j,p,g,q,rfl,kU,Kc,Hx,MD⟩)
 ·have Hr:=QDb r L j d false _ _ _ w1 Hx
  unfold Qvb at Hr
  simp only[Bool.false_eq_true,if_false]at Hr
  have Mu:=hid Gf
  clear Gf
  by_cases hs:Qkb L j=⟨#[63]⟩
  ·have kM:j+1≤L.length:=Q0g (by rw[hs];decide)
   have HS:=hid hs
   rw[hs]at Hr
   clear hs
   go_wp2_with fail
   refine Hr.mono ?_
   rintro e w2 ⟨rfl,gd,kC⟩
   obtain⟨c2,_,_,_,_,_,f2,_,_,_,_,_,rl2,_,_,_⟩:=gd.cells
   obtain⟨MG,bU⟩:=gd.on kM
   have ML:=HW.out (j+1) (by omega) _ _ _ _ MG
   have j5:=(MD.trans (Qcb kC) (fun _ _ e=>e)).trans bU (fun _ _ e=>e)
   clear gd MG Hr Hx MD kC bU
   go_wp2_with fail
   refine ML.mono ?_
   clear ML c2 f2
   rintro e w3 (⟨y,j2,p2,g2,q2,ck,rfl,uu,de,Gu,hj3,aJ,bV⟩|⟨ck,y,j2,p2,g2,q2,rfl,uu,de,aJ,bV⟩)
   ·have j6:=j5.trans bV (fun _ _ e=>e)
    have jJ:=Q5e r L j2 d false _ _ _ ⟨#[58]⟩ _ aJ (by decide)
    unfold QUd at jJ
    have lm:=hid ck
    clear aJ j5 bV ck
    by_cases hc:Qkb L j2=⟨#[58]⟩
    ·have yv:j2+1≤L.length:=Q0g (by rw[hc];decide)
     have HC:=hid hc
     go_wp2_with fail
     refine jJ.mono ?_
     rintro e w4 ⟨rfl,k5,ip,_⟩
     have mo:=ip ⟨by trivial,hc⟩
     have kQ:=j6.trans k5 (fun _ _ e=>e)
     have ML:=HW.out (j2+1) (by omega) _ _ _ _ mo
     clear jJ ip mo j6 k5 hc
     go_wp2_with fail
     refine ML.mono ?_
     clear ML
     rintro e w5 (⟨u,j4,p4,g4,q4,cn,rfl,M3,JH,hj4,vd,ai,j7⟩|⟨cn,u,j4,p4,g4,q4,rfl,M3,JH,ai,j7⟩)
     ·have bT:=kQ.trans j7 (fun _ _ e=>e)
      have bQ:=hid (Q6t Mu.out HS.out lm.out HC.out cn)
      have KX:=hid ai
      clear ai cn
      by_cases hz:v=0
      ·have bX:(v != 0)=false:=by subst hz;rfl
       go_wp2_with fail
       go_ret
       exact .inl ⟨u,j4,p || p2 || p4,g || g2 || g4,q || q2 || q4,by have:=bQ.out;simpa[orF,hz]using this,rfl,M3,JH,by omega,vd,by simpa[Bool.or_assoc]using KX.out,bT⟩
      ·have bX:(v != 0)=true:=by simpa using hz
       go_wp2_with fail
       go_ret
       exact .inl ⟨y,j4,p || p2 || p4,g || g2 || g4,q || q2 || q4,by have:=bQ.out;simpa[orF,hz]using this,rfl,uu,de,by omega,vd,by simpa[Bool.or_assoc]using KX.out,bT⟩
     ·have bT:=kQ.trans j7 (fun _ _ e=>e)
      have bQ:=hid (Q6t Mu.out HS.out lm.out HC.out cn)
      have KX:=hid ai
      clear ai cn
      by_cases hz:v=0
      ·have bX:(v != 0)=false:=by subst hz;rfl
       go_wp2_with fail
       go_ret
       exact .inr ⟨bQ.out,u,j4,p4,g4,q4,rfl,M3,JH,KX.out,bT⟩
      ·have bX:(v != 0)=true:=by simpa using hz
       go_wp2_with fail
       go_ret
       exact .inr ⟨bQ.out,y,j4,p4,g4,q4,rfl,uu,de,KX.out,bT⟩
    ·have bQ:=hid (Qaq Mu.out HS.out lm.out hc)
     go_wp2_with fail
     refine jJ.mono ?_
     rintro e w4 ⟨rfl,k5,_,bJ⟩
     have mo:=bJ (fun e=>hc e.2)
     have kQ:=j6.trans k5 (fun _ _ e=>e)
     have ML:=Q6k r L d _ _ _ _ w4 mo
     unfold QBe at ML
     clear jJ bJ mo j6 k5 hc
     go_wp2_with fail
     refine ML.mono ?_
     clear ML
     rintro e w5 ⟨u,j4,p4,g4,q4,rfl,M3,JH,ai,j7⟩
     have bT:=kQ.trans j7 (fun _ _ e=>e)
     have KX:=hid ai
     clear ai
     by_cases hz:v=0
     ·have bX:(v != 0)=false:=by subst hz;rfl
      go_wp2_with fail
      go_ret
      exact .inr ⟨bQ.out,u,j4,p4,g4,q4,rfl,M3,JH,KX.out,bT⟩
     ·have bX:(v != 0)=true:=by simpa using hz
      go_wp2_with fail
      go_ret
      exact .inr ⟨bQ.out,y,j4,p4,g4,q4,rfl,uu,de,KX.out,bT⟩
   ·have j6:=j5.trans bV (fun _ _ e=>e)
    have jJ:=Q5e r L j2 d true _ _ _ ⟨#[58]⟩ _ aJ (by decide)
    unfold QUd at jJ
    have bQ:=hid (Qfo Mu.out HS.out ck)
    clear aJ j5 bV ck
    go_wp2_with fail
    refine jJ.mono ?_
    rintro e w4 ⟨rfl,k5,_,bJ⟩
    have mo:=bJ (by simp)
    have kQ:=j6.trans k5 (fun _ _ e=>e)
    have ML:=Q6k r L d _ _ _ _ w4 mo
    unfold QBe at ML
    clear jJ bJ mo j6 k5
    go_wp2_with fail
    refine ML.mono ?_
    clear ML
    rintro e w5 ⟨u,j4,p4,g4,q4,rfl,M3,JH,ai,j7⟩
    have bT:=kQ.trans j7 (fun _ _ e=>e)
    have KX:=hid ai
    clear ai
    by_cases hz:v=0
    ·have bX:(v != 0)=false:=by subst hz;rfl
     go_wp2_with fail
     go_ret
     exact .inr ⟨bQ.out,u,j4,p4,g4,q4,rfl,M3,JH,KX.out,bT⟩
    ·have bX:(v != 0)=true:=by simpa using hz
     go_wp2_with fail
     go_ret
     exact .inr ⟨bQ.out,y,j4,p4,g4,q4,rfl,uu,de,KX.out,bT⟩
  ·have mQ:((Qkb L j).toList == [63])=false:=by
    rw[beq_eq_false_iff_ne];intro e;exact hs (QXe e)
   have HF:=hid (QJr Mu.out hs)
   clear hs
   generalize Qkb L j=t at Hr mQ
   go_wp2_with fail
   refine Hr.mono ?_
   rintro e w2 ⟨rfl,gd,kC⟩
   go_wp2_with fail
   go_ret
   exact .inl ⟨v,j,p,g,q,HF.out,rfl,kU,Kc,iy,iz,gd,MD.trans (Qcb kC) (fun _ _ e=>e)⟩
 ·have Hr:=QDb r L j d true _ _ _ w1 Hx
  unfold Qvb at Hr
  rw[if_pos rfl]at Hr
  go_wp2_with fail
  refine Hr.mono ?_
  rintro e w2 ⟨rfl,gd,kC⟩
  go_wp2_with fail
  go_ret
  exact .inr ⟨QGj Gf,v,j,p,g,q,rfl,kU,Kc,gd,MD.trans (Qcb kC) (fun _ _ e=>e)⟩
theorem QDs(r:Nat)(L:List (Int × ByteArray × Int)):∀(m i:Nat),L.length≤i+m→∀(d:Nat) (dp gr dv:Bool) (w:World),QZa w r L i d false dp gr dv→
 Calls Tryz.prog 235 #[.pointer (some ⟨r,0,none⟩)] w (Qec r L .whole d i dp gr dv w):=by
 intro m
 induction m with
 | zero=>
  intro i hm
  have hP:∀(d j:Nat),i≤j→∀(dp gr dv:Bool) (w:World),QZa w r L j d false dp gr dv→Calls Tryz.prog 232 #[.pointer (some ⟨r,0,none⟩)] w (Qec r L .prim d j dp gr dv w):=
   fun d j hj dp gr dv w h=>QFf r L d j dp gr dv w h (fun hi=>by omega)
  intro d dp gr dv w h
  have hO:∀j,i≤j→∀(dp gr dv:Bool) (w:World),QZa w r L j d false dp gr dv→Calls Tryz.prog 257 #[.pointer (some ⟨r,0,none⟩)] w (Qec r L .opnd d j dp gr dv w):=
   fun j hj dp gr dv w h=>QMh r L d j dp gr dv w h (fun j' hj' w' h'=>hP d j' (by omega) dp gr dv w' h')
  refine Qkk r L d i dp gr dv w h (Qjk r L d i hO 10 (Nat.le_refl _) i (Nat.le_refl _) dp gr dv w h) ?_
  intro j hj dp gr dv w' h'
  have:=h'.cells.2.2.2.2.2.2.2.2.2.2.2.2.2.1
  omega
 | succ m ih=>
  intro i hm
  have hP:∀(d j:Nat),i≤j→∀(dp gr dv:Bool) (w:World),QZa w r L j d false dp gr dv→Calls Tryz.prog 232 #[.pointer (some ⟨r,0,none⟩)] w (Qec r L .prim d j dp gr dv w):=
   fun d j hj dp gr dv w h=>QFf r L d j dp gr dv w h (fun _ dp gr dv w h=>ih (j+1) (by omega) (d+1) dp gr dv w h)
  intro d dp gr dv w h
  have hO:∀j,i≤j→∀(dp gr dv:Bool) (w:World),QZa w r L j d false dp gr dv→Calls Tryz.prog 257 #[.pointer (some ⟨r,0,none⟩)] w (Qec r L .opnd d j dp gr dv w):=
   fun j hj dp gr dv w h=>QMh r L d j dp gr dv w h (fun j' hj' w' h'=>hP d j' (by omega) dp gr dv w' h')
  refine Qkk r L d i dp gr dv w h (Qjk r L d i hO 10 (Nat.le_refl _) i (Nat.le_refl _) dp gr dv w h) ?_
  intro j hj dp gr dv w' h'
  exact ih j (by omega) d dp gr dv w' h'
def QUj:Option (Int × Nat × Bool × Bool × Bool)→Int × Int × Int
 | none=>(0,0,6)
 | some (v,j,p,g,q)=>if p=true then(0,0,3)else if g=true then(0,0,2)else if q=true then(0,0,22)else(v,j,0)
def QYl(s p g q:Bool)(u:Int)(j:Nat):Int × Int × Int:=if s=true then(0,0,6)else if p=true then(0,0,3)else if g=true then(0,0,2)else if q=true then(0,0,22)else(u,j,0)
def mkF(s p g q:Bool):Nat→Bool
 | 0=>s
 | 1=>p
 | 2=>g
 | _=>q
theorem Q8f(w:World)(o:Obj)(n:Nat):Qaa (fun _=>False) w ((w.alloc o).drewN n):=((Qaa.refl _ w).alloc o).drewN n
theorem Qaa.cell_of{w w':World}(k:Qaa (fun _=>False) w w'){g o:Nat}{v:Value}(h:w.cell? ⟨g,o,none⟩=some v)(hl:g<w.heap.size):w'.cell? ⟨g,o,none⟩=some v:=
 (k.cell (p:=⟨g,o,none⟩) hl (fun e=>e)).trans h
theorem QGp(w:World)(s p g q:Bool)(t:Nat) :
 ∃(W:World) (b:Nat),(w.alloc (.cells #[.bool s,.int .i64 6,.bool p,.int .i64 3,.bool g,.int .i64 2,.bool q,.int .i64 22] t)).drew=W∧w.heap.size=b∧W.cell? ⟨b,0,none⟩=some (.bool s)∧W.cell? ⟨b,1,none⟩=some (.int .i64 6)∧W.cell? ⟨b,2,none⟩=some (.bool p)∧W.cell? ⟨b,3,none⟩=some (.int .i64 3)∧W.cell? ⟨b,4,none⟩=some (.bool g)∧W.cell? ⟨b,5,none⟩=some (.int .i64 2)∧W.cell? ⟨b,6,none⟩=some (.bool q)∧W.cell? ⟨b,7,none⟩=some (.int .i64 22)∧b<W.heap.size∧Qaa (fun _=>False) w W:=by
 have hn:=Holds.new w #[.bool s,.int .i64 6,.bool p,.int .i64 3,.bool g,.int .i64 2,.bool q,.int .i64 22] t
 exact⟨_,_,rfl,rfl,hn.cell 0,hn.cell 1,hn.cell 2,hn.cell 3,hn.cell 4,hn.cell 5,hn.cell 6,hn.cell 7,hn.lt,((Qaa.refl _ w).alloc _).drewN 1⟩
theorem Qio{r:Nat}{L:List (Int × ByteArray × Int)}{W:Wh}{d i:Nat}{w:World}{e:Ending}{w':World}(h:Qec r L W d i false false false w e w') :
 ∃(u:Int) (j:Nat) (s p g q:Bool),e = .returned (.int .u32 u)∧0≤u∧u≤4294967295∧j≤1000000000∧w'.cell? ⟨r,2,none⟩=some (.int .i64 j)∧w'.cell? ⟨r,4,none⟩=some (.bool s)∧w'.cell? ⟨r,5,none⟩=some (.bool p)∧w'.cell? ⟨r,6,none⟩=some (.bool g)∧w'.cell? ⟨r,7,none⟩=some (.bool q)∧r<w'.heap.size∧Qaa (fun b=>b=r) w w'∧
  ∃res,Rd L W d i res∧QUj res=QYl s p g q u j:=by
 rcases h with⟨u,j,p,g,q,hr,rfl,h0,h1,_,_,ha,hk⟩|⟨hr,u,j,p,g,q,rfl,h0,h1,ha,hk⟩
 ·obtain⟨c2,_,c4,c5,c6,c7,_,_,_,_,_,_,rl,hj,hL,_⟩:=ha.cells
  refine⟨u,j,false,p,g,q,rfl,h0,h1,by omega,c2,c4,by simpa using c5,by simpa using c6,by simpa using c7,rl,hk,_,hr,?_⟩
  simp[QUj,QYl]
 ·obtain⟨c2,_,c4,c5,c6,c7,_,_,_,_,_,_,rl,hj,hL,_⟩:=ha.cells
  exact⟨u,j,true,p,g,q,rfl,h0,h1,by omega,c2,c4,c5,c6,c7,rl,hk,_,hr,rfl⟩
section
variable{L:List (Int × ByteArray × Int)}{d j k f:Nat}{x:Int}
end
set_option maxRecDepth 100000 in
theorem Qqj(L:List (Int × ByteArray × Int))(v:Value)(i:Nat)(w:World)(hv:QYj (fun x=>x<w.heap.size) w v L)(hL:L.length≤1000000000)(hi:i<L.length) :
 Calls Tryz.prog 231 #[v,.int .i64 i,.func (.func 232) #[] #[]] w fun e w'=>∃res,Rd L .prim 0 i res∧e = .returned (.tuple #[.int .i64 (QUj res).1,.int .i64 (QUj res).2.1,.int .i64 (QUj res).2.2])∧Below w.heap.size w w':=by
 have sy:(i:Int)<(L.length:Int):=by omega
 have ab:¬((L.length:Int)≤(i:Int)):=by omega
 have ht:=Qhp w
 have HV:=hid hv
 obtain⟨a,cap,rfl,_⟩:=hv
 go_enter Tryz.func231,Tryz.ntmps231
 go_wp2_with fail
 refine ht.mono ?_
 rintro e w1 ⟨g,bs,rfl,uk,Hb,C3,C4,kL⟩
 have BK:=kL.size
 have mX:QZa (w1.alloc (.cells #[.slice a L.length cap,.slice (some ⟨g,0,none⟩) 10 10,.int .i64 i,.int .i64 (0:Nat),.bool false,.bool false,.bool false,.bool false] 261)) w1.heap.size L i 0 false false false false:=by
  have k1:Qaa (fun _=>False) w w1:=Qaa.of_fresh kL _
  have k2:=(Qaa.refl (fun _=>False) w1).alloc (.cells #[.slice a L.length cap,.slice (some ⟨g,0,none⟩) 10 10,.int .i64 i,.int .i64 (0:Nat),.bool false,.bool false,.bool false,.bool false] 261)
  have Kw:=(HV.out.keeps k1 (fun _ _ e=>e)).keeps k2 (fun _ _ e=>e)
  obtain⟨a',c',e1,e2,e3⟩:=Kw
  refine⟨.slice a L.length cap,g,bs,Holds.new w1 _ _,⟨a',c',e1,e2,fun h0=>?_⟩,uk.keeps k2 (fun e=>e) (fun _ _ e=>e),by omega,fun b hb e=>?_,by omega,hL,by omega⟩
  ·obtain⟨g',o',f1,f2,f3⟩:=e3 h0
   exact⟨g',o',f1,(by show g'≠w1.heap.size;omega),f3⟩
  ·have:=Hb b hb;omega
 have ML:=QFf w1.heap.size L 0 i false false false _ mX (fun hj dp gr dv wx hx=>QDs w1.heap.size L L.length (i+1) (by omega) 1 dp gr dv wx hx)
 go_wp2_with fail
 refine(by exact ML:Calls _ _ _ _ _).mono ?_
 rintro e w2 km
 obtain⟨u,j,s,p,g2,q,rfl,M3,JH,hj,c2,c4,c5,c6,c7,rl,vg,tZ⟩:=Qio km
 have jH:w1.heap.size<w2.heap.size:=rl
 obtain⟨b,hb⟩:∃b,b=w1.heap.size:=⟨_,rfl⟩
 rw[←hb]at c2 c4 c5 c6 c7 jH rl
 have HK:=hid vg
 have HT:=hid (show True from trivial)
 clear ML mX km vg HT ht uk Hb C3 C4 HV
 have HB:=hid kL
 have jU:=hid BK
 clear kL BK
 rw[←hb]
 have HBB:=hid hb
 clear hb
 go_wp2_with fail
 go_region
 obtain⟨W3,gb,MB,sm,m0,m1,m2,m3,m4,m5,m6,m7,m8,mk⟩:=QGp w2 s p g2 q 262
 rw[MB,sm]
 have c2':=(mk.cell (p:=⟨b,2,none⟩) rl (fun e=>e)).trans c2
 have c2l:b<W3.heap.size:=Nat.lt_of_lt_of_le rl mk.size
 have M8:=hid mk
 clear mk c2 c4 c5 c6 c7 rl jH MB sm
 have ba:=hid tZ
 clear tZ
 go_wp2_with fail
 go_loopg [12,51] 4 (fun f x y wr=>∃k:Nat,y = .int .i64 (k:Int)∧k+f=4∧Hid (∀j,j<k→mkF s p g2 q j=false)∧Hid (Qaa (fun _=>False) W3 wr))
 case atStart=>exact⟨0,rfl,rfl,hid (by intro j hj;omega),hid (Qaa.refl _ _)⟩
 case round=>
  obtain⟨k,hy,hkf,hM,K8⟩:=hrel
  have e0:=K8.out.cell_of m0 m8
  have e1:=K8.out.cell_of m1 m8
  have e2:=K8.out.cell_of m2 m8
  have e3:=K8.out.cell_of m3 m8
  have e4:=K8.out.cell_of m4 m8
  have e5:=K8.out.cell_of m5 m8
  have e6:=K8.out.cell_of m6 m8
  have e7:=K8.out.cell_of m7 m8
  have e8:gb<wr.heap.size:=Nat.lt_of_lt_of_le m8 K8.out.size
  have c2w:=K8.out.cell_of c2' c2l
  have c2v:b<wr.heap.size:=Nat.lt_of_lt_of_le c2l K8.out.size
  have Gl:k=0∨k=1∨k=2∨k=3∨k=4:=by omega
  clear m0 m1 m2 m3 m4 m5 m6 m7 m8 c2' c2l
  rcases Gl with rfl|rfl|rfl|rfl|rfl
  ·obtain rfl:u51 = .int .i64 0:=hy
   cases s
   ·go_wp2_with fail
    go_roundg (gk-1)
    case measure=>omega
    case rel=>
     refine⟨1,rfl,by omega,hid ?_,hid ?_⟩
     ·intro j hj
      rcases Nat.lt_or_ge j 0 with c|c
      ·exact hM.out j c
      ·obtain rfl:j=0:=by omega
       rfl
     ·exact K8.out.alloc _
   ·have jX:=hM.out
    clear hM
    have GD:=hid jX
    clear jX
    go_wp2_with fail
    go_quiet (fail)
    go_wp2_with fail
    go_ret3
    obtain⟨res,Gf,cq⟩:=ba.out
    have hv:QUj res=(0,0,6):=by rw[cq];simp[QYl]
    have B1:Below w.heap.size w w2:=(HB.out.alloc jU.out _).trans (HK.out.below (by have:=jU.out;simp;omega) (fun i hi e=>by have:=jU.out;omega))
    have B2:Below w.heap.size w wr:=B1.trans ((M8.out.trans K8.out (fun _ _ e=>e)).below B1.size (fun _ _ e=>e))
    exact⟨res,Gf,by rw[hv];rfl,B2.trans (Qaa.below (S:=fun _=>False) (Q8f wr _ _) B2.size (fun _ _ e=>e))⟩
  ·obtain rfl:u51 = .int .i64 1:=hy
   cases p
   ·go_wp2_with fail
    go_roundg (gk-1)
    case measure=>omega
    case rel=>
     refine⟨2,rfl,by omega,hid ?_,hid ?_⟩
     ·intro j hj
      rcases Nat.lt_or_ge j 1 with c|c
      ·exact hM.out j c
      ·obtain rfl:j=1:=by omega
       rfl
     ·exact K8.out.alloc _
   ·have jX:=hM.out
    clear hM
    have GD:=hid jX
    clear jX
    go_wp2_with fail
    go_quiet (fail)
    go_wp2_with fail
    go_ret3
    obtain⟨res,Gf,cq⟩:=ba.out
    have f0:=GD.out 0 (by omega)
    simp only[mkF]at f0
    have hv:QUj res=(0,0,3):=by rw[cq];simp[QYl,f0]
    have B1:Below w.heap.size w w2:=(HB.out.alloc jU.out _).trans (HK.out.below (by have:=jU.out;simp;omega) (fun i hi e=>by have:=jU.out;omega))
    have B2:Below w.heap.size w wr:=B1.trans ((M8.out.trans K8.out (fun _ _ e=>e)).below B1.size (fun _ _ e=>e))
    exact⟨res,Gf,by rw[hv];rfl,B2.trans (Qaa.below (S:=fun _=>False) (Q8f wr _ _) B2.size (fun _ _ e=>e))⟩
  ·obtain rfl:u51 = .int .i64 2:=hy
   cases g2
   ·go_wp2_with fail
    go_roundg (gk-1)
    case measure=>omega
    case rel=>
     refine⟨3,rfl,by omega,hid ?_,hid ?_⟩
     ·intro j hj
      rcases Nat.lt_or_ge j 2 with c|c
      ·exact hM.out j c
      ·obtain rfl:j=2:=by omega
       rfl
     ·exact K8.out.alloc _
   ·have jX:=hM.out
    clear hM
    have GD:=hid jX
    clear jX
    go_wp2_with fail
    go_quiet (fail)
    go_wp2_with fail
    go_ret3
    obtain⟨res,Gf,cq⟩:=ba.out
    have f0:=GD.out 0 (by omega)
    simp only[mkF]at f0
    have f1:=GD.out 1 (by omega)
    simp only[mkF]at f1
    have hv:QUj res=(0,0,2):=by rw[cq];simp[QYl,f0,f1]
    have B1:Below w.heap.size w w2:=(HB.out.alloc jU.out _).trans (HK.out.below (by have:=jU.out;simp;omega) (fun i hi e=>by have:=jU.out;omega))
    have B2:Below w.heap.size w wr:=B1.trans ((M8.out.trans K8.out (fun _ _ e=>e)).below B1.size (fun _ _ e=>e))
    exact⟨res,Gf,by rw[hv];rfl,B2.trans (Qaa.below (S:=fun _=>False) (Q8f wr _ _) B2.size (fun _ _ e=>e))⟩
  ·obtain rfl:u51 = .int .i64 3:=hy
   cases q
   ·go_wp2_with fail
    go_roundg (gk-1)
    case measure=>omega
    case rel=>
     refine⟨4,rfl,by omega,hid ?_,hid ?_⟩
     ·intro j hj
      rcases Nat.lt_or_ge j 3 with c|c
      ·exact hM.out j c
      ·obtain rfl:j=3:=by omega
       rfl
     ·exact K8.out.alloc _
   ·have jX:=hM.out
    clear hM
    have GD:=hid jX
    clear jX
    go_wp2_with fail
    go_quiet (fail)
    go_wp2_with fail
    go_ret3
    obtain⟨res,Gf,cq⟩:=ba.out
    have f0:=GD.out 0 (by omega)
    simp only[mkF]at f0
    have f1:=GD.out 1 (by omega)
    simp only[mkF]at f1
    have f2:=GD.out 2 (by omega)
    simp only[mkF]at f2
    have hv:QUj res=(0,0,22):=by rw[cq];simp[QYl,f0,f1,f2]
    have B1:Below w.heap.size w w2:=(HB.out.alloc jU.out _).trans (HK.out.below (by have:=jU.out;simp;omega) (fun i hi e=>by have:=jU.out;omega))
    have B2:Below w.heap.size w wr:=B1.trans ((M8.out.trans K8.out (fun _ _ e=>e)).below B1.size (fun _ _ e=>e))
    exact⟨res,Gf,by rw[hv];rfl,B2.trans (Qaa.below (S:=fun _=>False) (Q8f wr _ _) B2.size (fun _ _ e=>e))⟩
  ·obtain rfl:u51 = .int .i64 4:=hy
   go_wp2_with fail
   go_quiet (fail)
   go_wp2_with fail
   go_ret3
   obtain⟨res,Gf,cq⟩:=ba.out
   have f0:=hM.out 0 (by omega)
   simp only[mkF]at f0
   have f1:=hM.out 1 (by omega)
   simp only[mkF]at f1
   have f2:=hM.out 2 (by omega)
   simp only[mkF]at f2
   have f3:=hM.out 3 (by omega)
   simp only[mkF]at f3
   have hv:QUj res=(u,(j:Int),0):=by rw[cq];simp[QYl,f0,f1,f2,f3]
   have B1:Below w.heap.size w w2:=(HB.out.alloc jU.out _).trans (HK.out.below (by have:=jU.out;simp;omega) (fun i hi e=>by have:=jU.out;omega))
   have B2:Below w.heap.size w wr:=B1.trans ((M8.out.trans K8.out (fun _ _ e=>e)).below B1.size (fun _ _ e=>e))
   exact⟨res,Gf,by rw[hv];rfl,B2.trans (Qaa.below (S:=fun _=>False) (Qta wr _) B2.size (fun _ _ e=>e))⟩
end Go.Proofs.YtgaboghigefgbaaGreatDoor
