/- Lemmas on the way to the law; no conditions. -/
import Derived.Test.YtgaboghigefgbaaGreatDoorZ36
import Derived.Test.YtgaboghigefgbaaGreatDoorZ10
set_option linter.all false
set_option maxRecDepth 100000
set_option maxHeartbeats 8000000
namespace Go.Proofs.YtgaboghigefgbaaGreatDoor
open Go.Lib (hid)
open Go.RowKit
def QAl(s:ByteArray)(file:Int)(w:World)(e:Ending)(w':World):Prop:=
 ∃v,e=.returned (.tuple #[v,QYk (QOt s.data.toList file).2.1,.int .i64 (QOt s.data.toList file).2.2])∧QLb w' w.heap.size file v (QOt s.data.toList file).1∧Below w.heap.size w w'
theorem Qps(a b:Int)(s:ByteArray)(file l q:Int)(wx:World):(Instr.field 150 (.agg #[.int .i64 a,.string s,.int .i64 b,.int .i64 file,.int .i64 l,.int .i64 q]) 0).run Tryz.prog wx=.ok (.int .i64 a) wx:=by kernel_rfl
theorem QLb.lower{w:World}{base b2:Nat}{file:Int}{v:Value}{D:List Qrc}(h:QLb w base file v D)(hb:b2≤base):QLb w b2 file v D:=by
 obtain⟨vs,h1,h2,h3⟩:=h;exact⟨vs,h1,Q1b h2 hb,fun j h h'=>(h3 j h h').lower hb⟩
theorem QQq{w:World}{base B:Nat}{v:Value}{file:Int}{L:List Tok}(h:w.ownsRow base 150 6 v L.length (Qfc file L))(Hl:L≠[])(hB:w.heap.size≤B):Qph B w v file L:=by
 obtain⟨g,cap,rfl,_,hg,_,hc⟩:=QIt h Hl;exact⟨g,cap,rfl,by omega,fun i hi k u hu=>hc i _ (List.getElem?_eq_getElem hi) k u hu⟩
theorem Qvm(s:ByteArray)(file:Int)(w:World)(hs:s.size≤maxLen)(hnp:Pln (QZc s.data.toList file).1)(h0:Qah w) :
 Calls Tryz.prog 85 #[.string s,.int .i64 file] w (QAl s file w):=by
 have He:Below w.heap.size w (w.alloc (.cells #[.int .i64 0,.int .i64 0,.int .i64 0] 79)):=Bq;have gX:=Holds.new w #[.int .i64 0,.int .i64 0,.int .i64 0] 79;have kA:=QFo s file _ hs (h0.fr He);have Mi:=Qso s.data.toList file;unfold Qlj QYk at kA;unfold QAl;have hT:∃T,QOt s.data.toList file=T:=⟨_,rfl⟩;obtain⟨T,hT⟩:=hT;rw[hT];unfold QOt at hT;generalize QZc s.data.toList file=RT at *
 obtain⟨L,⟨p1,p2,p3⟩,er⟩:=RT;simp only at kA Mi hT;unfold QYk;have hsz:(w.alloc (.cells #[.int .i64 0,.int .i64 0,.int .i64 0] 79)).heap.size=w.heap.size+1:=by simp
 clear h0;go_enter Tryz.func85,Tryz.ntmps85;go_wp2_with fail;generalize w.alloc (.cells #[.int .i64 0,.int .i64 0,.int .i64 0] 79)=w0 at *
 refine Calls.mono (by exact kA) ?_;rintro e w1 ⟨lv,rfl,Hn,Hb⟩;have kb1:Qaa (fun _=>False) w0 w1:=Qaa.of_fresh Hb _;have Gh:Qaa (fun _=>False) w w1:=(Qaa.of_fresh He (fun _=>False)).trans kb1 (fun _ _ e=>e);have Hm:=gX.keeps kb1 (fun e=>e);have Hx:=Hm.alloc (.cells #[.int .i64 p1,.int .i64 p2,.int .i64 p3] 79);have mF:=Holds.new w1 #[.int .i64 p1,.int .i64 p2,.int .i64 p3] 79;have H3:=Gh.alloc (.cells #[.int .i64 p1,.int .i64 p2,.int .i64 p3] 79);have Gi:=World.ownsRow.alloc Hn (.cells #[.int .i64 p1,.int .i64 p2,.int .i64 p3] 79);have dJ:=Hm.lt;clear kA He gX Hb kb1 Gh Hn;by_cases he:er=0
 ·subst he;rw[if_neg (by simp)]at hT;obtain⟨ts,t,tJ,h8⟩:=Mi.2.2 rfl;have kr:LOk L:=⟨hnp,Mi.2.1,Mi.1,ts,t,tJ,h8⟩;have Hl:L≠[]:=by rw[tJ];simp
  have hpos:0<L.length:=List.length_pos_iff.2 Hl;have vK:=QQq (B:=(w1.alloc (.cells #[.int .i64 p1,.int .i64 p2,.int .i64 p3] 79)).heap.size) Gi Hl (Nat.le_refl _);obtain⟨gL,cL,rfl,_⟩:=id vK;have GP:Qhb ((w1.alloc (.cells #[.int .i64 p1,.int .i64 p2,.int .i64 p3] 79)).alloc (.cells #[.slice (some ⟨gL,0,none⟩) L.length cL,.int .i64 0,.slice none 0 0,.pointer none] 148)) (w1.heap.size+1) (w1.alloc (.cells #[.int .i64 p1,.int .i64 p2,.int .i64 p3] 79)).heap.size file L (.slice (some ⟨gL,0,none⟩) L.length cL) (.slice none 0 0) 0 []:=
   ⟨Holds.newAt (by simp) _ _,vK.keeps ((Qaa.refl (fun _=>False) _).alloc _) (fun _ e=>e.elim),QLb.none _ _ _,by simp,by simp,hpos,kr,Nat.le_refl _⟩
  have gf:=Hx.alloc (.cells #[.slice (some ⟨gL,0,none⟩) L.length cL,.int .i64 0,.slice none 0 0,.pointer none] 148);have H9:=H3.alloc (.cells #[.slice (some ⟨gL,0,none⟩) L.length cL,.int .i64 0,.slice none 0 0,.pointer none] 148);have gx:(w1.alloc (.cells #[.int .i64 p1,.int .i64 p2,.int .i64 p3] 79)).heap.size=w1.heap.size+1:=by simp
  have bu:w.heap.size<w1.heap.size:=dJ;have eE:L.length<0+QBf L:=by unfold QBf;omega
  generalize hN:QBf L=N at *
  generalize cU:QTq L N 0 []=TR at *
  have fv:=hid cU;have kt:=hid kr;have hlen:=Mi.2.1;rw[gx]at GP;clear mF Gi vK Hx H3 hN cU Mi kr tJ gx;go_wp2_with fail;generalize(w1.alloc (.cells #[.int .i64 p1,.int .i64 p2,.int .i64 p3] 79)).alloc (.cells #[.slice (some ⟨gL,0,none⟩) L.length cL,.int .i64 0,.slice none 0 0,.pointer none] 148)=w3 at *
  go_loopg [] N (fun f wr=>∃(j:Nat) (acc:List Qrc) (ov:Value),Hid (QTq L f j acc=TR)∧L.length<j+f∧Qhb wr (w1.heap.size+1) (w1.heap.size+1) file L (.slice (some ⟨gL,0,none⟩) L.length cL) ov j acc∧Qaa (fun b=>w1.heap.size+1≤b) w3 wr)
  case atStart=>exact⟨0,[],.slice none 0 0,fv,eE,GP,Qaa.refl _ _⟩
  case round=>
   obtain⟨j,acc,ov,hR,uy,hA,hK⟩:=hrel;have g9:=hA.lt;obtain⟨f,hf⟩:∃f,gk=f+1:=⟨gk-1,by omega⟩;have hS:=hR.o;rw[hf,QTq]at hS;have Gf:=Q2c wr _ _ file L _ ov j _ hA;unfold QKb at Gf;obtain⟨t,Kq⟩:∃t,t=tkN L j:=⟨_,rfl⟩;rw[←Kq]at Gf hS;have jC:=hid Kq;clear Kq hR;obtain⟨t0,t1,t2,t3,t4⟩:=t;simp only at Gf hS;have oV:=Qps t0 t2 ⟨t1.toArray⟩ file t3 t4;go_wp2_with fail;refine Calls.mono (by exact Gf) ?_;rintro e w4 ⟨rfl,Hu⟩;have kb4:Qaa (fun _=>False) wr w4:=Qaa.of_fresh Hu _;have kP:=hA.keeps kb4;have KA:=hK.trans kb4 (S:=(fun b=>w1.heap.size+1≤b)) (fun _ _ e=>e.elim);clear Gf Hu kb4 hA hK;by_cases h8:t0=8
   ·subst h8;rw[if_pos rfl]at hS;subst hS;simp only at hT;subst hT;have GY:=gf.keeps KA (by omega);have gW:Qaa (fun _=>False) w w4:=H9.trans (KA.mono (S:=fun b=>w.heap.size<b) (fun b _ e=>by omega)) (fun b hb e=>by omega);obtain⟨n0,n1,n2,nf0,nf1,nf2,nl⟩:=three GY;have c2:w4.cell? ⟨w1.heap.size+1,2,none⟩=some ov:=kP.holds.cell 2;have crl:=kP.holds.lt;have hd:=kP.defs;obtain⟨oa,oc,rfl⟩:=hd.slice;have HD:=hid hd;have M2:=hid GY;have ng:=hid gW;clear hd GY gW KA kP;go_wp2_with fail;have z1:=QPc M2.o (.int .i64 0) (.int .i64 0) (.int .i64 0);have z2:=QAb (S:=fun _=>False) ng.o (B:=w.heap.size) (.inl (Nat.le_refl _)) (.int .i64 0) (.int .i64 0) (.int .i64 0);have z3:=(HD.o.keeps (QAb (S:=(· = w.heap.size)) (Qaa.refl _ w4) (.inr rfl) (.int .i64 0) (.int .i64 0) (.int .i64 0)) (Qqc.one M2.o (by decide) (by decide) (by decide))).lower (show w.heap.size≤w1.heap.size+1 by omega);unfold Qmn at z1 z2 z3;obtain⟨q0,q1,q2,_⟩:=three z1;exact bodyPost_ret (v:=.tuple #[.slice oa acc.length oc,.agg #[.int .i64 0,.int .i64 0,.int .i64 0],.int .i64 0]) (by simp[results,Tryz.results85,go_sem,q0,q1,q2]) rfl ⟨_,rfl,z3,z2.below (Nat.le_refl _) (fun _ _ e=>e)⟩
   rw[if_neg h8]at hS;have h8b:(t0 != 8)=true:=by simpa using h8
   have dH:=QGt w4 _ _ file L _ ov j _ kP;unfold QNd at dH;generalize Qnu L j=PR at *
   clear h8;go_wp2_with fail;refine Calls.mono (by exact dH) ?_;rintro e w5 ⟨H5,hm⟩;have gW:=KA.trans (Qaa.of_below H5) (S:=(fun b=>w1.heap.size+1≤b)) (fun _ _ e=>e);clear dH kP KA H5 oV;cases PR with
   | ok q=>
    obtain⟨k,ds⟩:=q;simp only at hm hS;obtain⟨rfl,ov6,Mc,ip⟩:=hm;have HS:=hid hS;clear hS;go_wp2_with fail;go_roundg (gk-1)
    case measure=>omega
    case rel=>
     refine⟨k,acc++ds,ov6,?_,by omega,Mc,gW⟩;rw[hf,Nat.add_sub_cancel];exact HS
   | error q=>
    obtain⟨k,c⟩:=q;simp only at hm hS;obtain⟨rfl,ov6,x,ff,hH,hF⟩:=hm;subst hS;simp only at hT;subst hT;have gN:=gf.keeps gW (by omega);have Kl:Qaa (fun _=>False) w w5:=H9.trans (gW.mono (S:=fun b=>w.heap.size<b) (fun b _ e=>by omega)) (fun b hb e=>by omega);obtain⟨n0,n1,n2,nf0,nf1,nf2,nl⟩:=three gN;have c3:w5.cell? ⟨w1.heap.size+1,3,none⟩=some (.pointer (some ⟨ff,0,none⟩)):=hH.cell 3;have crl:=hH.lt;have frl:=hF.lt;have d0:w5.cell? ⟨ff,0,none⟩=some (.int .i64 file):=hF.cell 0;have d1:w5.cell? ⟨ff,1,none⟩=some (.int .i64 (tkN L k).line):=hF.cell 1;have d2:w5.cell? ⟨ff,2,none⟩=some (.int .i64 (tkN L k).col):=hF.cell 2;have d3:w5.cell? ⟨ff,3,none⟩=some (.int .i64 c):=hF.cell 3;obtain⟨ln,Mp⟩:∃z,z=(tkN L k).line:=⟨_,rfl⟩;obtain⟨cl,gG⟩:∃z,z=(tkN L k).col:=⟨_,rfl⟩;rw[←Mp]at d1;rw[←gG]at d2;have ws:=hid Mp;have K6:=hid gG;clear Mp gG;have J2:=hid gN;have je:=hid Kl;clear gN Kl hH hF gW;go_wp2_with fail;go_region
    all_goals
     go_wp2_with fail;have z1:=(QPc J2.o (.int .i64 file) (.int .i64 ln) (.int .i64 cl)).drew;have z2:=(QAb (S:=fun _=>False) je.o (B:=w.heap.size) (.inl (Nat.le_refl _)) (.int .i64 file) (.int .i64 ln) (.int .i64 cl)).drew;unfold Qmn at z1 z2;obtain⟨q0,q1,q2,_⟩:=three z1;exact bodyPost_ret (v:=.tuple #[.slice none 0 0,.agg #[.int .i64 file,.int .i64 ln,.int .i64 cl],.int .i64 c]) (by simp[results,Tryz.results85,go_sem,q0,q1,q2]) rfl ⟨_,(by rw[ws.o,K6.o]),QLb.none _ _ _,z2.below (Nat.le_refl _) (fun _ _ e=>e)⟩
 rw[if_pos he]at hT;subst hT;have lu:(er != 0)=true:=by simpa using he
 obtain⟨n0,n1,n2,nf0,nf1,nf2,nl⟩:=three Hx;obtain⟨m0,m1,m2,mf0,mf1,mf2,ml⟩:=three mF;obtain⟨va,vc,rfl⟩:=Qea Gi;have mu:=hid Hx;have jZ:=hid H3;clear he Mi Hx H3 mF Gi;go_wp2_with fail;generalize w1.alloc (.cells #[.int .i64 p1,.int .i64 p2,.int .i64 p3] 79)=w2 at *
 go_region
 all_goals
  go_wp2_with fail;have z1:=(QPc mu.o (.int .i64 p1) (.int .i64 p2) (.int .i64 p3)).drew;have z2:=(QAb (S:=fun _=>False) jZ.o (B:=w.heap.size) (.inl (Nat.le_refl _)) (.int .i64 p1) (.int .i64 p2) (.int .i64 p3)).drew;unfold Qmn at z1 z2;obtain⟨q0,q1,q2,_⟩:=three z1;exact bodyPost_ret (v:=.tuple #[.slice none 0 0,.agg #[.int .i64 p1,.int .i64 p2,.int .i64 p3],.int .i64 er]) (by simp[results,Tryz.results85,go_sem,q0,q1,q2]) rfl ⟨_,rfl,QLb.none _ _ _,z2.below (Nat.le_refl _) (fun _ _ e=>e)⟩
theorem QRj{w:World}{base:Nat}{e:TypeId}{size:Nat}{v:Value}{n:Nat}{xs:List Value}(h:w.ownsRow base e size v n xs)(hn:0<n) :
 ∃g cap,v=.slice (some ⟨g,0,none⟩) n cap∧g<w.heap.size∧base≤g∧∀j,j<n*size→w.cell? ⟨g,j,none⟩=xs[j]?:=by
 rcases h.2 with⟨_,h0⟩|⟨g,cap,cur,rfl,hb,hh,_⟩
 ·omega
 exact⟨g,cap,rfl,lt_of_block hh,hb,fun j hj=>h.cellAt j hj⟩
theorem QLg:∀(cs:List Q2g) (k:Nat) (h:k<cs.length),(QQd cs)[k*2]? = some (.int .i64 cs[k].value)∧(QQd cs)[k*2+1]? = some (.string cs[k].label)
 | c::cs,0,_=>⟨rfl,rfl⟩
 | c::cs,k+1,h=>by
  have:=QLg cs k (by simpa using h);rw[show(k+1)*2=k*2+2 from by omega];exact this
theorem QWg:∀(ps:List Qtf) (vs:List Value) (k:Nat) (h:k<ps.length) (h2:k<vs.length),vs.length=ps.length→
 (QNc ps vs)[k*3]? = some (.int .i64 ps[k].kind)∧(QNc ps vs)[k*3+1]? = some vs[k]∧(QNc ps vs)[k*3+2]? = some (.string ps[k].text)
 | p::ps,v::vs,0,_,_,_=>⟨rfl,rfl,rfl⟩
 | p::ps,v::vs,k+1,h,h2,hl=>by
  have:=QWg ps vs k (by simpa using h) (by simpa using h2) (by simpa using hl);rw[show(k+1)*3=k*3+3 from by omega];exact this
theorem QDh(file:Int):∀(D:List Qrc) (vs:List Value) (k:Nat) (h:k<D.length) (h2:k<vs.length),vs.length=D.length→
 (QMb file D vs)[k*7]? = some (.int .i64 D[k].kind)∧(QMb file D vs)[k*7+1]? = some (.string D[k].label)∧(QMb file D vs)[k*7+2]? = some (.string D[k].name)∧(QMb file D vs)[k*7+3]? = some vs[k]∧
 (QMb file D vs)[k*7+4]? = some (.int .i64 file)∧(QMb file D vs)[k*7+5]? = some (.int .i64 D[k].line)∧(QMb file D vs)[k*7+6]? = some (.int .i64 D[k].col)
 | d::D,v::vs,0,_,_,_=>⟨rfl,rfl,rfl,rfl,rfl,rfl,rfl⟩
 | d::D,v::vs,k+1,h,h2,hl=>by
  have:=QDh file D vs k (by simpa using h) (by simpa using h2) (by simpa using hl);rw[show(k+1)*7=k*7+7 from by omega];exact this
section
variable{w:World}{base:Nat}{file:Int}{v:Value}{cs:List Q2g}{ps:List Qtf}{D:List Qrc}
theorem QGr(h:Qnb w base v cs)(h0:0<cs.length):∃g cap,v=.slice (some ⟨g,0,none⟩) cs.length cap∧g<w.heap.size∧∀k (hk:k<cs.length),w.cell? ⟨g,k*2,none⟩=some (.int .i64 cs[k].value)∧w.cell? ⟨g,k*2+1,none⟩=some (.string cs[k].label):=by
 obtain⟨g,cap,rfl,hg,_,hc⟩:=QRj h h0;refine⟨g,cap,rfl,hg,fun k hk=>?_⟩;obtain⟨a0,a1⟩:=QLg cs k hk;exact⟨(hc _ (by omega)).trans a0,(hc _ (by omega)).trans a1⟩
theorem Q5r(h:QVa w base v ps)(h0:0<ps.length):∃g cap,v=.slice (some ⟨g,0,none⟩) ps.length cap∧g<w.heap.size∧∀k (hk:k<ps.length),∃cv,w.cell? ⟨g,k*3,none⟩=some (.int .i64 ps[k].kind)∧w.cell? ⟨g,k*3+1,none⟩=some cv∧w.cell? ⟨g,k*3+2,none⟩=some (.string ps[k].text)∧Qnb w base cv ps[k].cells:=by
 obtain⟨vs,hl,hr,hs⟩:=h;obtain⟨g,cap,rfl,hg,_,hc⟩:=QRj hr h0;refine⟨g,cap,rfl,hg,fun k hk=>?_⟩;obtain⟨a0,a1,a2⟩:=QWg ps vs k hk (by omega) hl;exact⟨vs[k]'(by omega),(hc _ (by omega)).trans a0,(hc _ (by omega)).trans a1,(hc _ (by omega)).trans a2,hs k hk (by omega)⟩
theorem Q6s(h:QLb w base file v D)(h0:0<D.length):∃g cap,v=.slice (some ⟨g,0,none⟩) D.length cap∧g<w.heap.size∧∀k (hk:k<D.length),∃pv,w.cell? ⟨g,k*7,none⟩=some (.int .i64 D[k].kind)∧w.cell? ⟨g,k*7+1,none⟩=some (.string D[k].label)∧w.cell? ⟨g,k*7+2,none⟩=some (.string D[k].name)∧w.cell? ⟨g,k*7+3,none⟩=some pv∧
 w.cell? ⟨g,k*7+4,none⟩=some (.int .i64 file)∧w.cell? ⟨g,k*7+5,none⟩=some (.int .i64 D[k].line)∧w.cell? ⟨g,k*7+6,none⟩=some (.int .i64 D[k].col)∧QVa w base pv D[k].parts:=by
 obtain⟨vs,hl,hr,hs⟩:=h;obtain⟨g,cap,rfl,hg,_,hc⟩:=QRj hr h0;refine⟨g,cap,rfl,hg,fun k hk=>?_⟩;obtain⟨a0,a1,a2,a3,a4,a5,a6⟩:=QDh file D vs k hk (by omega) hl;exact⟨vs[k]'(by omega),(hc _ (by omega)).trans a0,(hc _ (by omega)).trans a1,(hc _ (by omega)).trans a2,(hc _ (by omega)).trans a3,(hc _ (by omega)).trans a4,(hc _ (by omega)).trans a5,(hc _ (by omega)).trans a6,hs k hk (by omega)⟩
end
end Go.Proofs.YtgaboghigefgbaaGreatDoor
