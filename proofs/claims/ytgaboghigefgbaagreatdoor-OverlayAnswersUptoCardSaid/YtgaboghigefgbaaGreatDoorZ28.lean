/- Lemmas on the way to the law; no conditions. -/
import Derived.Test.YtgaboghigefgbaaGreatDoorZ27
open Go
set_option linter.all false
set_option maxRecDepth 100000
set_option maxHeartbeats 8000000
namespace Go.Proofs.YtgaboghigefgbaaGreatDoor
open Go.Proofs.Tryz
open Go.Lib (hid)
theorem QJe(p:UInt8→Bool):∀l:List UInt8,(∃x∈l,p x=false)→∃c r,l=l.takeWhile p++c::r∧p c=false
 | [],h=>by obtain⟨x,hx,_⟩:=h;cases hx
 | a::l,h=>by
  cases e:p a with
  | false=>exact⟨a,l,by rw[List.takeWhile_cons,if_neg (by rw[e];decide)];rfl,e⟩
  | true=>
   obtain⟨c,r,h1,h2⟩:=QJe p l (by
    obtain⟨x,hx,hp⟩:=h;rcases List.mem_cons.1 hx with rfl|hx
    ·rw[e]at hp;cases hp
    exact⟨x,hx,hp⟩)
   exact⟨c,r,by rw[List.takeWhile_cons,if_pos e,List.cons_append,←h1],h2⟩
theorem Qwl{p:UInt8→Bool}:∀{l:List UInt8} {x:UInt8},x∈l.takeWhile p→p x=true
 | [],x,h=>by cases h
 | a::l,x,h=>by
  rw[List.takeWhile_cons]at h;split at h
  ·rename_i hp;rcases List.mem_cons.1 h with rfl|h
   ·exact hp
   exact Qwl h
  cases h
theorem QQe{l:List UInt8}(h:(47:UInt8)∈l):l=QPg l++47::Qoe l∧∀x∈Qoe l,x≠47:=by
 obtain⟨c,r,h1,h2⟩:=QJe (fun c=>decide (c≠47)) l.reverse ⟨47,by simpa using h,by decide⟩;have hc:c=47:=by simpa using h2
 subst hc;have h3:l=r.reverse++47::Qoe l:=by
  have:=congrArg List.reverse h1;rw[List.reverse_reverse,List.reverse_append,List.reverse_cons]at this;unfold Qoe;simpa using this
 have h4:QPg l=r.reverse:=by
  have hl:=congrArg List.length h3;simp only[List.length_append,List.length_cons,List.length_reverse]at hl;unfold QPg;have e:l.take (l.length-(Qoe l).length-1)=(r.reverse++47::Qoe l).take (l.length-(Qoe l).length-1):=congrArg (List.take _) h3;rw[e,List.take_append_of_le_length (by simp;omega),List.take_of_length_le (by simp;omega)]
 refine⟨by rw[h4];exact h3,fun x hx=>?_⟩;unfold Qoe at hx;rw[List.mem_reverse]at hx;have:=Qwl hx;simpa using this
theorem QFf{s:ByteArray}(h:Qpc s=true):∃r,s.data.toList=47::r:=by
 unfold Qpc at h;split at h
 ·cases h
 rename_i c r e;rw[Bool.and_eq_true,decide_eq_true_eq]at h;exact⟨r,by rw[e,h.1]⟩
theorem Qlk{s:ByteArray}(h:Qpc s=true):Qzh (Qzb s) (Qbd s)=s:=by
 obtain⟨r,hr⟩:=QFf h;obtain⟨e,hn⟩:=QQe (l:=s.data.toList) (by rw[hr];exact List.mem_cons_self);cases hf:QPg s.data.toList with
 | nil=>
  have h1:Qzb s=⟨#[47]⟩:=by unfold Qzb;rw[hf];rfl
  rw[h1];unfold Qzh;rw[if_pos (show Q8h ⟨#[47]⟩=true from(QCa _ _).2 rfl)];apply Qlc;rw[hf,List.nil_append]at e;show 47::Qoe s.data.toList=_;exact e.symm
 | cons a q=>
  have h1:Qzb s=⟨(a::q).toArray⟩:=by unfold Qzb;rw[hf];rfl
  rw[h1];unfold Qzh;by_cases hroot:Q8h ⟨(a::q).toArray⟩=true
  ·exfalso;have e2:=congrArg (fun b:ByteArray=>b.data.toList) ((QCa _ _).1 hroot);simp only at e2;have e3:a=47∧q=[]:=by
    have:(a::q)=[47]:=e2;simpa using this
   obtain⟨rfl,rfl⟩:=e3;rw[hf]at e;unfold Qpc at h;rw[e]at h;simp only[List.cons_append,List.nil_append,List.isEmpty_cons,Bool.false_or,decide_true,Bool.true_and]at h;have:Qvb (47::Qoe s.data.toList)=[]::Qvb (Qoe s.data.toList):=rfl;rw[this,List.all_cons,Bool.and_eq_true]at h;have:=h.1;simp[QTa]at this
  rw[if_neg hroot];apply Qlc;rw[hf]at e;show(a::q)++47::Qoe s.data.toList=_;exact e.symm
theorem QJf{x:Qga}(h:Qwb x=true):Qpc x.path=true∧x.value.size≤256∧((x.kind=1∧x.name=⟨#[]⟩∧x.value=⟨#[]⟩∧Q8h x.path=false)∨(x.kind=2∧Q6a x.name=true)∨(x.kind=3∧x.value=⟨#[]⟩∧Q6a x.name=true)):=by
 unfold Qwb at h;split at h
 ·cases h
 rename_i h1;have a1:Qpc x.path=true:=by
  cases e:Qpc x.path with
  | true=>rfl
  | false=>exact absurd (.inl e) h1
 have a2:x.value.size≤256:=by
  rcases Nat.lt_or_ge 256 x.value.size with e|e
  ·exact absurd (.inr e) h1
  exact e
 refine⟨a1,a2,?_⟩;split at h
 ·rename_i h2;rw[Bool.and_eq_true,Bool.and_eq_true,Bool.not_eq_true']at h;exact .inl ⟨h2,(QCa _ _).1 h.1.1,(QCa _ _).1 h.1.2,h.2⟩
 split at h
 ·rename_i h3;rcases h3 with h3|⟨h3,h4⟩
  ·exact .inr (.inl ⟨h3,h⟩)
  exact .inr (.inr ⟨h3,(QCa _ _).1 h4,h⟩)
 cases h
theorem Qhk{T:List Qba}{x:Qga}(hc:Qia T=0)(hv:Qwb x=true)(he:(Q5a T x).2=0):Qia (Q5a T x).1=0∧(x.kind≠1→InS T x.path)∧(∀t,InS (Q5a T x).1 t↔InS T t∨(x.kind=1∧t=x.path))∧
 ∀t q v,PrS (Q5a T x).1 t q v↔if x.kind≠1∧t=x.path∧q=x.name then x.kind=2∧v=x.value else PrS T t q v:=by
 obtain⟨hp,JL,hk⟩:=QJf hv;by_cases k1:x.kind=1
 ·unfold Q5a at he ⊢;rw[if_pos k1]at he ⊢;cases hf:(QYa T x.path).2 with
  | true=>
   rw[if_pos rfl];refine⟨hc,fun h=>absurd k1 h,fun t=>⟨.inl,?_⟩,fun t q v=>by rw[if_neg (fun h=>h.1 k1)]⟩;rintro(h|⟨_,rfl⟩)
   ·exact h
   exact(QXl hc).2 hf
  | false=>
   rw[hf]at he;rw[if_neg (by decide)]at he ⊢;obtain⟨a1,a2,a3,a4⟩:=QZs he;rw[Qlk hp]at a3;refine⟨a1,fun h=>absurd k1 h,fun t=>?_,fun t q v=>by rw[if_neg (fun h=>h.1 k1)];exact a4 t q v⟩;rw[a3];simp[k1]
 have Mo:InS T x.path:=by
  cases hf:(QYa T x.path).2 with
  | true=>exact(QXl hc).2 hf
  | false=>unfold Q5a at he;rw[if_neg k1,if_pos hf]at he;cases he
 have hf:=(QXl hc).1 Mo;have hE:Q5a T x=if x.kind=2 then Qid T x.path x.name x.value else if (Q9a T x.path x.name).2=0 then Q9a T x.path x.name else(T,0):=by
  unfold Q5a;rw[if_neg k1,if_neg (by rw[hf];decide)]
 rw[hE]at he ⊢;by_cases k2:x.kind=2
 ·rw[if_pos k2]at he ⊢;obtain⟨a1,a2,a3,a4⟩:=QDt he;refine⟨a1,fun _=>Mo,fun t=>by rw[a3];simp[k1],fun t q v=>?_⟩;rw[a4];simp[k2]
 have k3:x.kind=3:=by omega
 rw[if_neg k2]at he ⊢;by_cases hd:(Q9a T x.path x.name).2=0
 ·rw[if_pos hd]at he ⊢;obtain⟨a1,a2,a3,a4⟩:=QFn hd;refine⟨a1,fun _=>Mo,fun t=>by rw[a3];simp[k1],fun t q v=>?_⟩;rw[a4];simp[k3]
 rw[if_neg hd]at he ⊢;refine⟨hc,fun _=>Mo,fun t=>by simp[k1],fun t q v=>?_⟩;by_cases hh:t=x.path∧q=x.name
 ·obtain⟨rfl,rfl⟩:=hh;simp only[k3,ne_eq,and_self,and_true];simp only[show ¬(3:Int)=1 by decide,show ¬(3:Int)=2 by decide,not_false_eq_true,if_true,false_and,iff_false];rintro⟨i,hi,e,h⟩;apply hd;have hb:=QQm hc hi;rw[e]at hb;rw[Qxe hi hb,←QJs (Qve hc _ (List.getElem_mem hi)),h]
  rfl
 rw[if_neg (fun h=>hh h.2)]
section
open Go.RowKit
theorem Qkt{l:List UInt8}{k:Nat}(hk:k<l.length)(h:l[k]=47)(hn:∀j (hj:j<l.length),k<j→l[j]≠47):Qoe l=l.drop (k+1)∧QPg l=l.take k:=by
 have hm:(47:UInt8)∈l:=by rw[←h];exact List.getElem_mem hk
 obtain⟨e,h2⟩:=QQe hm;generalize QPg l=F at *
 generalize Qoe l=Z at *
 have hlen:=congrArg List.length e;simp only[List.length_append,List.length_cons]at hlen;have hf:(F).length=k:=by
  rcases Nat.lt_trichotomy (F).length k with c|c|c
  ·exfalso;have h3:l[k]∈Z:=by
    have:l[k]? = (Z)[k-(F).length-1]?:=by
     conv=>lhs;rw[e]
     rw[List.getElem?_append_right (by omega)];obtain⟨d,hd⟩:∃d,k-(F).length=d+1:=⟨k-(F).length-1,by omega⟩;rw[hd,List.getElem?_cons_succ]
     rfl
    rw[List.getElem?_eq_getElem hk]at this;exact List.mem_of_getElem? this.symm
   exact h2 _ h3 h
  ·exact c
  exfalso;have hj:(F).length<l.length:=by omega
  apply hn _ hj c;have:l[(F).length]? = some 47:=by
   conv=>lhs;rw[e]
   rw[List.getElem?_append_right (Nat.le_refl _),Nat.sub_self]
   rfl
  rw[List.getElem?_eq_getElem hj]at this;exact Option.some.inj this
 constructor
 ·conv=>rhs;rw[e]
  rw[List.drop_append,hf,List.drop_of_length_le (by omega)];simp
 conv=>rhs;rw[e]
 rw[List.take_append_of_le_length (by omega),List.take_of_length_le (by omega)]
theorem Qvh(s:ByteArray)(k:Nat)(h:k<s.size)(h2:k<s.data.toList.length):s.data.toList[k]=s[k]:=by simp;rfl
theorem Qpn(s:ByteArray)(k:Nat)(hk:k<s.size)(h:s[k]=47)(hn:∀j (hj:j<s.size),k<j→s[j]≠47):s.extract 0 (max k 1)=Qzb s∧s.extract (k+1) s.size=Qbd s:=by
 have e1:s.size=s.data.toList.length:=by simp
 obtain⟨a,b⟩:=Qkt (l:=s.data.toList) (k:=k) (by omega) (by rw[Qvh s k hk];exact h) (fun j hj hkj=>by rw[Qvh s j (by omega)];exact hn j (by omega) hkj);constructor
 ·apply Qlc;unfold Qzb;rw[b];have e2:(s.extract 0 (max k 1)).data.toList=s.data.toList.take (max k 1):=by simp[ByteArray.data_extract]
  rw[e2];cases k with
  | zero=>
   rw[if_pos (by simp)];obtain⟨r,hr⟩:∃r,s.data.toList=47::r:=by
    cases hs:s.data.toList with
    | nil=>rw[hs,List.length_nil]at e1;omega
    | cons c r=>
     have:s.data.toList[0]'(by omega)=47:=by rw[Qvh s 0 hk];exact h
     simp only[hs,List.getElem_cons_zero]at this;exact⟨r,by rw[this]⟩
   rw[hr];rfl
  | succ k=>
   have:(s.data.toList.take (k+1)).isEmpty=false:=by
    cases hs:s.data.toList with
    | nil=>rw[hs,List.length_nil]at e1;omega
    | cons c r=>rfl
   rw[if_neg (by rw[this];decide),show max (k+1) 1=k+1 from by omega]
 apply Qlc;unfold Qbd;rw[a];simp[ByteArray.data_extract];rw[List.take_of_length_le (by simp)]
theorem Qql(base bk k:Nat)(v:Value)(ps:List Qqa)(w:World)(hr:Qna w base v ps)(hl:ps.length≤1000)(hk:k<ps.length)(hH:Holds w bk #[.int .i64 k] 3) :
 Calls prog 118 #[v,.pointer (some ⟨bk,0,none⟩)] w fun e w'=>∃v',e=.returned v'∧Qna w' base v' (Qxj ps k)∧Qaa (fun b=>v.ownBlock=some b) w w':=by
 have x0:=hH.cell 0;have HD:=hid (fun(wx:World) (h:Qna wx base v ps)=>QZk base v ps k wx h hk hl);have HR:=hid hr;obtain⟨va,vc,rfl⟩:=Qea hr.1;clear hr hH;go_enter func118,ntmps118;go_wp2_with fail;refine(HD.o _ HR.o).mono ?_;rintro e w2 ⟨v2,rfl,Gz,k2⟩;go_wp2_with fail;go_ret;exact⟨_,rfl,Gz,k2⟩
theorem Qti:∀args w,(callFunc 118 args).run prog w=.ok (.enter 118 args) w:=enters_of func118 (by kernel_rfl) rfl
theorem QDm(R:Nat→Prop)(v:Value)(T:List Qba)(s name:ByteArray)(w:World)(hT:Qoa R w v T) :
 Calls prog 84 #[.agg #[v],.string s,.string name] w (Qgc (Q9a T s name) w):=by
 obtain⟨a,cap,rfl,gy,gh⟩:=hT.shape;have HT:=hid hT.bound;clear hT;have Gr:=fun wx hx=>QGg (fun g=>g<w.heap.size) (.slice a T.length cap) T s wx hx;obtain⟨W0,gM⟩:∃W0,W0=(w.alloc (.cells #[.slice a T.length cap] 27)).alloc (.cells #[.slice none 0 0] 27):=⟨_,rfl⟩;have He:Below w.heap.size w W0:=by rw[gM];exact(Bq).alloc (by simp) _
 have Gb:Holds W0 w.heap.size #[.slice a T.length cap] 27:=by rw[gM];exact(Holds.new w #[.slice a T.length cap] 27).alloc _
 have gX:Holds W0 (w.heap.size+1) #[.slice none 0 0] 27:=by rw[gM];exact Holds.newAt (w:=w.alloc (.cells #[.slice a T.length cap] 27)) (B:=w.heap.size+1) (by simp) #[.slice none 0 0] 27
 have Ki:Qoa (fun g=>g<w.heap.size) W0 (.slice a T.length cap) T:=HT.o.new He;have Js:=He.size;have dJ:=gX.lt;rcases Qkb T s with⟨Hl,gR⟩|⟨gd,k,hk,G0,Gt⟩
 ·have hE:=hid (show Q9a T s name=([],(Qua T s).2)from by unfold Q9a;rw[if_pos Hl]);have aT:((Qua T s).2 != 0)=true:=by simpa using Hl
  rw[gR]at Gr;have kK:=hid Gr;clear Gr Hl gR;generalize(Qua T s).2=c at *
  go_enter func84,ntmps84;go_wp2_with fail;rw[←gM];refine(kK.o _ (by exact Ki)).mono ?_;rintro e w1 ⟨rfl,Hb⟩;have Hm:=gX.fr Hb;have Hc:=He.trans (Hb.mono Js);have z0:=Hm.cell 0;have zf:=Hm.free 0;go_wp2_with fail;have q0:(w1.setCell ⟨w.heap.size+1,0,none⟩ (.slice none 0 0)).cell? ⟨w.heap.size+1,0,none⟩=some (.slice none 0 0):=(Hm.set 0 _).cell 0;exact bodyPost_ret (v:=.tuple #[.agg #[.slice none 0 0],.int .i64 c]) (by simp[results,Tryz.results84,go_sem,q0]) rfl ⟨_,by rw[hE.o],by rw[hE.o];exact Qda.nil _ _,Hc.setCell (p:=⟨w.heap.size+1,0,none⟩) (by simp) _⟩
 rw[G0]at Gr;have kK:=hid Gr;have hE:=hid (Qxe (x:=name) hk G0);have gz:=(Q4b gd) T[k] (List.getElem_mem hk);have ki:=hid gd;have k8:=Qqd gd k hk;have rJ:=hid k8;clear Gr G0 gd;go_enter func84,ntmps84;go_wp2_with fail;rw[←gM];refine(kK.o _ (by exact Ki)).mono ?_;rintro e w1 ⟨rfl,Hb⟩;have kk1:=Qaa.of_fresh Hb (fun _=>False);have Hm:=gX.keeps kk1 (fun e=>e);have Hr:=Gb.keeps kk1 (fun e=>e);have GU:=Ki.new Hb;have Hc:=He.trans (Hb.mono Js);clear gX Gb Ki He gM Hb kk1 kK;obtain⟨g,o,pa,pc,rC,hg,q0,q1,q2,bK,KQ,vo,ve,KH,bU⟩:=GU.at k hk;subst rC;have mj:=hid (fun(wx:World) (hx:Below w1.heap.size w1 wx)=>Qjg (fun g=>g<w.heap.size) (.slice pa T[k].props.length pc) T[k] name wx (bK.new hx) k8 gz);have dm:g<w1.heap.size:=by have:=Hc.size;omega
 have Gn:=Hc.size;have x0:=Hr.cell 0;have iq:(k:Int)<T.length:=by omega
 clear bK k8;cases gU:Qtc T[k].props name with
 | false=>
  have hF:=hid (show Q9a T s name=([],4)from by rw[hE.o,if_pos gU]);have J0:=hid (fun(wx:World) (hx:Below w1.heap.size w1 wx)=>by have:=mj.o wx hx;rw[gU]at this;exact this);clear mj hE gU;go_wp2_with fail;refine(J0.o _ (by exact Below.refl _ _)).mono ?_;rintro e w3 ⟨rfl,Hg⟩;have kk3:=Qaa.of_fresh Hg (fun _=>False);have gf:=(Hm.keeps kk3 (fun e=>e)).alloc (.cells #[.int .i64 (Qmb T[k].props name)] 3);have Hu:=(Hc.trans (Hg.mono Gn));have H5:=Hu.alloc Hu.size (.cells #[.int .i64 (Qmb T[k].props name)] 3);have z0:=gf.cell 0;have zf:=gf.free 0;go_wp2_with fail;have q0:=(gf.set 0 (.slice none 0 0)).cell 0;exact bodyPost_ret (v:=.tuple #[.agg #[.slice none 0 0],.int .i64 4]) (by simp[results,Tryz.results84,go_sem,q0]) rfl ⟨_,by rw[hF.o],by rw[hF.o];exact Qda.nil _ _,H5.setCell (p:=⟨w.heap.size+1,0,none⟩) (by simp) _⟩
 | true=>
  have Hh:Qmb T[k].props name<T[k].props.length:=by
   by_cases e:Qmb T[k].props name<T[k].props.length
   ·exact e
   rw[QUf (by omega)]at gU;cases gU
  have hF:=hid (show Q9a T s name=(T.set k ⟨T[k].parent,T[k].name,Qxj T[k].props (Qmb T[k].props name)⟩,0)from by rw[hE.o,if_neg (by rw[gU];decide),QJm rJ.o gU]);have J0:=hid (fun(wx:World) (hx:Below w1.heap.size w1 wx)=>by have:=mj.o wx hx;rw[gU]at this;exact this);clear mj hE gU;go_wp2_with fail;refine(J0.o _ (by exact Below.refl _ _)).mono ?_;rintro e w3 ⟨rfl,Hg⟩;have kk3:=Qaa.of_fresh Hg (fun _=>False);have gf:=(Hm.keeps kk3 (fun e=>e)).alloc (.cells #[.int .i64 (Qmb T[k].props name)] 3);have GA:=(Hr.keeps kk3 (fun e=>e)).alloc (.cells #[.int .i64 (Qmb T[k].props name)] 3);have JA:=Holds.new w3 #[.int .i64 (Qmb T[k].props name)] 3;have Hu:=(Hc.trans (Hg.mono Gn));have H5:=Hu.alloc Hu.size (.cells #[.int .i64 (Qmb T[k].props name)] 3);have mA:=(GU.new Hg).new ((Below.refl _ _).alloc (Nat.le_refl _) (.cells #[.int .i64 (Qmb T[k].props name)] 3));have x3:=GA.cell 0;have z0:=gf.cell 0;have zf:=gf.free 0;obtain⟨w5,iK⟩:∃x:World,x=w3.alloc (.cells #[.int .i64 (Qmb T[k].props name)] 3):=⟨_,rfl⟩;rw[←iK]at gf GA JA H5 mA x3 z0 zf;have gG:∀base u wx,Below w5.heap.size w5 wx→w5.heap.size≤base→base≤wx.heap.size→Qna wx base u T[k].props→Calls prog 118 (#[u]++#[.pointer (some ⟨w3.heap.size,0,none⟩)]) wx fun e w'=>∃v',e=.returned v'∧Qna w' base v' (Qxj T[k].props (Qmb T[k].props name))∧Qaa (fun b=>u.ownBlock=some b) wx w':=
   fun base u wx G9 _ _ hr=>Qql base w3.heap.size (Qmb T[k].props name) u T[k].props wx hr gz Hh (JA.fr G9)
  have dd:=hid (Q1g (fun g=>g<w.heap.size) (.slice (some ⟨g,o,none⟩) T.length cap) T k 118 _ (Qxj T[k].props (Qmb T[k].props name)) w5 mA ki.o hk Qti gG);have KT:=hid gf;have mN:=hid H5;clear gG GA JA mA Hg kk3 Hr Hm GU Hc q0 q1 q2 Hu H5 gf x0 J0;go_upto_region 7 with fail;rw[←iK];clear iK;go_wp2_with fail;refine dd.o.mono ?_;rintro e w6 ⟨v5,rfl,aZ,gn⟩;obtain⟨sa,sc,rfl⟩:=Qnc aZ;have gN:=KT.o.fr gn;have z5:=gN.cell 0;have f5:=gN.free 0;have r5:=(aZ.base (mN.o.size)).set gN (by decide) (by decide) 0 (.slice sa (T.set k ⟨T[k].parent,T[k].name,Qxj T[k].props (Qmb T[k].props name)⟩).length sc);have b5:=(mN.o.trans (gn.mono mN.o.size)).setCell (p:=⟨w.heap.size+1,0,none⟩) (by simp) (.slice sa (T.set k ⟨T[k].parent,T[k].name,Qxj T[k].props (Qmb T[k].props name)⟩).length sc);have c5:=(gN.set 0 (.slice sa (T.set k ⟨T[k].parent,T[k].name,Qxj T[k].props (Qmb T[k].props name)⟩).length sc)).cell 0;have JW:=hid (And.intro r5 (And.intro b5 c5));clear r5 b5 c5 aZ gN gn dd;generalize(T.set k ⟨T[k].parent,T[k].name,Qxj T[k].props (Qmb T[k].props name)⟩)=T5 at *
  generalize rj:T5.length=n5 at *
  go_wp2_with fail;exact bodyPost_ret (v:=.tuple #[.agg #[.slice sa n5 sc],.int .i64 0]) (by simp[results,Tryz.results84,go_sem,JW.o.2.2]) rfl ⟨_,by rw[hF.o],by rw[hF.o];exact JW.o.1,JW.o.2.1⟩
theorem Qnm(R:Nat→Prop)(v:Value)(T:List Qba)(s name:ByteArray)(w:World)(hT:Qoa R w v T) :
 Calls prog 103 #[.agg #[v],.string s,.string name] w (Qgc (Q9a T s name) w):=by
 obtain⟨a,cap,rfl,gy,gh⟩:=hT.shape;have HT:=hid hT;clear hT;have Gr:=fun wx hx=>Qxg R (.slice a T.length cap) T s wx hx;have He:Below w.heap.size w ((w.alloc (.cells #[.slice a T.length cap] 27)).alloc (.cells #[.slice none 0 0] 27)):=(Bq).alloc (by simp) _;have Gb:=(Holds.new w #[.slice a T.length cap] 27).alloc (.cells #[.slice none 0 0] 27);have gX:=Holds.newAt (w:=w.alloc (.cells #[.slice a T.length cap] 27)) (B:=w.heap.size+1) (by simp) #[.slice none 0 0] 27;rcases Qkb T s with⟨Hl,gR⟩|⟨gd,k,hk,G0,Gt⟩
 ·have hF:=hid (show Q9a T s name=([],(Qua T s).2)from by unfold Q9a;rw[if_pos Hl]);have aT:((Qua T s).2 != 0)=true:=by simpa using Hl
  rw[gR]at Gr;have kK:=hid Gr;clear Gr Hl gR;generalize(Qua T s).2=c at *
  go_enter func103,ntmps103;go_wp2_with fail;refine(kK.o _ (by exact HT.o.new He)).mono ?_;rintro e w1 ⟨rfl,Hb⟩;have Hm:=gX.fr Hb;have Hc:=He.trans (Hb.mono (by simp;omega));have z0:=Hm.cell 0;have zf:=Hm.free 0;have zl:=Hm.lt;go_wp2_with fail;have q0:(w1.setCell ⟨w.heap.size+1,0,none⟩ (.slice none 0 0)).cell? ⟨w.heap.size+1,0,none⟩=some (.slice none 0 0):=(Hm.set 0 _).cell 0;exact bodyPost_ret (v:=.tuple #[.agg #[.slice none 0 0],.int .i64 c]) (by simp[results,Tryz.results103,go_sem,q0]) rfl ⟨_,by rw[hF.o],by rw[hF.o];exact Qda.nil _ _,Hc.setCell (p:=⟨w.heap.size+1,0,none⟩) (by simp) _⟩
 rw[G0]at Gr;have kK:=hid Gr;have hE:=hid (Qxe (x:=name) hk G0);have gS:=(Qlb (QQa gd)).2;have j4:=hid (Q4b gd);have gz:=j4.o T[k] (List.getElem_mem hk);have k8:=Qqd gd k hk;have kU:=hid (fun wx hx=>QGf R (.slice a T.length cap) T wx hx gS j4.o);have bS:=fun(wx:World) (pv:Value) (hx:QAa R wx pv T[k].props)=>QBq R T[k].parent T[k].name pv T[k].props name wx hx;have KG:=QHs (x:=name) k8;clear Gr G0 gd k8;have kX:(k:Int)<(T.length:Int):=by omega
 cases gU:Qtc T[k].props name with
 | false=>
  have hF:=hid (show Q9a T s name=([],4)from by rw[hE.o,if_pos gU]);rw[gU,if_neg (by decide)]at KG;rw[KG]at bS;have dQ:=hid bS;clear bS gU hE kU KG;go_enter func103,ntmps103;go_wp2_with fail;refine(kK.o _ (by exact HT.o.new He)).mono ?_;rintro e w1 ⟨rfl,Hb⟩;have Hm:=gX.fr Hb;have Hr:=Gb.fr Hb;have Hc:=He.trans (Hb.mono (by simp;omega));obtain⟨g,o,pa,pc,rfl,hg,c0,c1,c2,hp,p1,p2,b0,b1,b2⟩:=(HT.o.new Hc).at k hk;have M0:=hid hp;have bx:=Hr.cell 0;have bl:=Hr.lt;have Gx:=Hc.size;clear hp;go_wp2_with fail;refine(dQ.o _ _ (by exact M0.o)).mono ?_;rintro e w2 ⟨rfl,Hg⟩;have Hx:=Hm.fr Hg;have Hu:=Hc.trans (Hg.mono Gx);have z0:=Hx.cell 0;have zf:=Hx.free 0;have zl:=Hx.lt;go_wp2_with fail;have q0:(w2.setCell ⟨w.heap.size+1,0,none⟩ (.slice none 0 0)).cell? ⟨w.heap.size+1,0,none⟩=some (.slice none 0 0):=(Hx.set 0 _).cell 0;exact bodyPost_ret (v:=.tuple #[.agg #[.slice none 0 0],.int .i64 4]) (by simp[results,Tryz.results103,go_sem,q0]) rfl ⟨_,by rw[hF.o],by rw[hF.o];exact Qda.nil _ _,Hu.setCell (p:=⟨w.heap.size+1,0,none⟩) (by simp) _⟩
 | true=>
  have hF:=hid (show Q9a T s name=(T.set k ⟨T[k].parent,T[k].name,QDa T[k].props name⟩,0)from by rw[hE.o,if_neg (by rw[gU];decide)]);obtain⟨val,Gg⟩:∃val,ofT T[k].props name=(val,true):=⟨_,by rw[KG,gU,if_pos rfl]⟩;rw[Gg]at bS;have dQ:=hid bS;clear bS gU hE KG Gg;go_enter func103,ntmps103;go_wp2_with fail;refine(kK.o _ (by exact HT.o.new He)).mono ?_;rintro e w1 ⟨rfl,Hb⟩;have Hm:=gX.fr Hb;have Hr:=Gb.fr Hb;have Hc:=He.trans (Hb.mono (by simp;omega));obtain⟨g,o,pa,pc,dj,hg,c0,c1,c2,hp,p1,p2,b0,b1,b2⟩:=(HT.o.new Hc).at k hk;have M0:=hid hp;subst dj;have bx:=Hr.cell 0;have bl:=Hr.lt;have Gx:=Hc.size;clear hp;go_wp2_with fail;refine(dQ.o _ _ (by exact M0.o)).mono ?_;rintro e w2 ⟨rfl,Hg⟩;have Hx:=Hm.fr Hg;have gw:=Hr.fr Hg;have Hu:=Hc.trans (Hg.mono Gx);clear bx bl c0 c1 c2 Hr Hm Hc Hg Gx M0 Hb He Gb gX;have bx:=gw.cell 0;have bl:=gw.lt;have MP:=Hu.size;go_wp2_with fail;refine(kU.o _ (by exact HT.o.new Hu)).mono ?_;rintro e w4 ⟨cv,rfl,JD,H5⟩;have GY:=Hx.fr H5;have jI:=gw.fr H5;have gn:=Hu.trans (H5.mono MP);have bX:=gn.size;have k7:=JD.base MP;clear H5 Hu gw Hx bx bl JD;obtain⟨cg,cc,Mf,uk⟩:∃cg cc,cv=.slice (some ⟨cg,0,none⟩) T.length cc∧cg<w4.heap.size:=by
   obtain⟨_,_,g2,_⟩:=k7;obtain⟨x,y,e,_,hl⟩:=g2.form (by omega);exact⟨x,y,e,hl⟩
  subst Mf;have dX:=Holds.new w4 #[.slice (some ⟨cg,0,none⟩) T.length cc] 27;have kT:=k7.new ((Below.refl _ _).alloc (Nat.le_refl _) (.cells #[.slice (some ⟨cg,0,none⟩) T.length cc] 27));have gN:=GY.alloc (.cells #[.slice (some ⟨cg,0,none⟩) T.length cc] 27);have bN:=jI.alloc (.cells #[.slice (some ⟨cg,0,none⟩) T.length cc] 27);have Gd:=gn.alloc bX (.cells #[.slice (some ⟨cg,0,none⟩) T.length cc] 27);have tA:w4.heap.size+1=(w4.alloc (.cells #[.slice (some ⟨cg,0,none⟩) T.length cc] 27)).heap.size:=by simp
  go_upto_region 8 with fail;clear k7 gn GY jI;obtain⟨g',o',pa,pc,dj,hg,c0,c1,c2,hp,p1,p2,b0,b1,b2⟩:=(HT.o.new Gd).at k hk;injection dj with dj;injection dj with hga1 hga2;subst hga1;subst hga2;have M0:=hid hp;have gj:=(kT.at k hk);obtain⟨pv,pa',pc',Kf,d0,d1,d2,Gm,kr⟩:=gj;clear hp c0 c1 d0 d1 Gm kr;subst Kf;obtain⟨_,_,Hn,_⟩:=id kT;have lw:=Hn.frozenAt (k*3+2);have kF:=(Hn.lt cg rfl).2;have ic:=(Hn.lt cg rfl).1;have lQ:w.heap.size+1≠cg:=fun e=>Qla Hn gN (by decide) (by rw[e];rfl);clear Hn;generalize w4.alloc (.cells #[.slice (some ⟨cg,0,none⟩) T.length cc] 27)=w5 at *
  have x0:=bN.cell 0;have xl:=bN.lt;have y0:=dX.cell 0;have yl:=dX.lt;have mn:=Gd.size;have ji:=hid kT;clear kT;have G8:=hid (fun(wx:World) (hx:QAa (fun g=>g<w5.heap.size) wx (.slice pa (T[k]'hk).props.length pc) (T[k]'hk).props)=>Q6k (fun g=>g<w5.heap.size) (.slice pa T[k].props.length pc) T[k].props name wx hx gz)
  go_region_with (go_at_call 139;refine(G8.o _ (by exact M0.o.bound.drew)).mono ?_;rintro e w7 ⟨rv,rfl,JJ,KB⟩;obtain⟨rva,rvc,bW⟩:=Qea JJ.1;subst bW;have Gq:Below w5.heap.size w5 w7:=(Below.refl w5.heap.size w5).drew.trans KB;have kx:=QRd x0 xl Gq;have ky:=QRd y0 yl Gq;have kd:=QRd d2 kF Gq;have kz:=(Gq.frozen (p:=⟨cg,k*3+2,none⟩) kF).trans lw;have kl:=Nat.lt_of_lt_of_le kF Gq.size;have kyl:=Nat.lt_of_lt_of_le yl Gq.size)
  all_goals
   have M6:=ji.o.new Gq;have qN:=JJ.base (show w.heap.size≤w5.heap.size from mn);have qD:=dX.fr Gq;have qX:=gN.fr Gq;have J5:=qD.other ⟨cg,k*3+2,none⟩ (.slice rva (QDa T[k].props name).length rvc) (by show w4.heap.size≠cg;omega);have au:=qX.other ⟨cg,k*3+2,none⟩ (.slice rva (QDa T[k].props name).length rvc) lQ;have eu:=M6.setProps k hk qN;have oK:=(Gd.trans (Gq.mono mn)).setCell (p:=⟨cg,k*3+2,none⟩) ic (.slice rva (QDa T[k].props name).length rvc);have y1:=J5.cell 0;have yl1:=J5.lt;have z1:=au.cell 0;have zf1:=au.free 0;have zl1:=au.lt;have MF:=eu.set au (by decide) (by decide) 0 (.slice (some ⟨cg,0,none⟩) T.length cc);have GZ:=oK.setCell (p:=⟨w.heap.size+1,0,none⟩) (by simp) (.slice (some ⟨cg,0,none⟩) T.length cc);have q0:=(au.set 0 (.slice (some ⟨cg,0,none⟩) T.length cc)).cell 0;have fe:=hid (And.intro MF (And.intro GZ q0));clear MF GZ q0 eu oK J5 au qD qX qN M6 kx ky kd kz kl kyl Gq KB JJ;go_wp2_with fail;have q0:=fe.o.2.2;exact bodyPost_ret (v:=.tuple #[.agg #[.slice (some ⟨cg,0,none⟩) T.length cc],.int .i64 0]) (by simp[results,Tryz.results103,go_sem,q0]) rfl ⟨_,by rw[hF.o],by rw[hF.o];exact fe.o.1,fe.o.2.1⟩
theorem QOi{T:List Qba}{s:ByteArray}(hc:Qia T=0):(QYa T s=(0,false)∧Qua T s=(0,4))∨∃k:Nat,k<T.length∧QYa T s=((k:Int),true)∧Qua T s=((k:Int),0):=by
 by_cases h:0≤QSb T s
 ·right;have hb:Qua T s=(QSb T s,0):=by unfold Qua;rw[if_neg (by rw[hc];simp),if_pos h]
  rcases Qkb T s with⟨Hl,_⟩|⟨_,k,hk,G0,_⟩
  ·rw[hb]at Hl;exact absurd rfl Hl
  have e:QSb T s=(k:Int):=by rw[hb]at G0;exact congrArg Prod.fst G0
  exact⟨k,hk,by unfold QYa;rw[if_neg (by rw[hc];simp),Qpg e],G0⟩
 left;constructor
 ·unfold QYa Q9c;rw[if_neg (by rw[hc];simp),if_neg h]
 unfold Qua;rw[if_neg (by rw[hc];simp),if_neg h]
theorem Qap{T:List Qba}{p n u:ByteArray}(hc:Qia T=0):Q5a T ⟨2,p,n,u⟩=Qid T p n u:=by
 unfold Q5a;rw[if_neg (show ¬(2:Int)=1 by decide)];rcases QOi (s:=p) hc with⟨h1,h2⟩|⟨k,_,h1,_⟩
 ·rw[if_pos (by rw[h1])];unfold Qid;rw[if_pos (by rw[h2];decide),h2]
 rw[if_neg (by rw[h1];simp),if_pos rfl]
theorem QBn{T:List Qba}{p n u:ByteArray}(h:(QYa T p).2=false):Q5a T ⟨3,p,n,u⟩=([],4):=by
 unfold Q5a;rw[if_neg (show ¬(3:Int)=1 by decide),if_pos h]
theorem Q9o{T:List Qba}{p n u:ByteArray}{k:Nat}(hk:k<T.length)(h:QYa T p=((k:Int),true))(hb:Qua T p=((k:Int),0)):Q5a T ⟨3,p,n,u⟩=if Qtc T[k].props n=false then(T,0)else Q9a T p n:=by
 unfold Q5a;rw[if_neg (show ¬(3:Int)=1 by decide),if_neg (by rw[h];simp),if_neg (show ¬(3:Int)=2 by decide)];show(if (Q9a T p n).2=0 then Q9a T p n else(T,0))=_;rw[Qxe hk hb];cases Qtc T[k].props n with
 | false=>rfl
 | true=>rfl
theorem Q8o{T:List Qba}{p n u:ByteArray}(h:(QYa T p).2=false):Q5a T ⟨1,p,n,u⟩=QQc T (Qzb p) (Qbd p):=by
 unfold Q5a;rw[if_pos rfl,if_neg (by rw[h];decide)]
theorem QIl{T:List Qba}{p n u:ByteArray}(h:(QYa T p).2=true):Q5a T ⟨1,p,n,u⟩=(T,0):=by
 unfold Q5a;rw[if_pos rfl,if_pos h]
theorem QAq(R:Nat→Prop)(v:Value)(T:List Qba)(s:ByteArray)(w:World)(hT:Qoa R w v T) :
 Calls prog 13 #[.agg #[v],.string s] w fun e w'=>e=.returned (.tuple #[.int .i64 (QYa T s).1,.bool (QYa T s).2])∧Below w.heap.size w w':=by
 obtain⟨a,cap,rfl,gy,gh⟩:=hT.shape;have HT:=hid hT;clear hT;have gd:=fun wx hx=>QVe R (.slice a T.length cap) T wx hx;have He:Below w.heap.size w (w.alloc (.cells #[.slice a T.length cap] 27)):=Bq;have kj:=Holds.new w #[.slice a T.length cap] 27;by_cases hz:Qia T=0
 ·have Ht:=Q3b hz;have gS:=(Qlb (QQa hz)).2;have K4:=hid (fun wx hx=>Q7k R (.slice a T.length cap) T s wx hx Ht gS);have hX:=hid (show QYa T s=Q9c T s from by unfold QYa;rw[if_neg (by simp[hz])]);rw[hz]at gd;have ki:=hid gd;clear gd hz Ht;go_enter func13,ntmps13;go_wp2_with fail;refine(ki.o _ (by exact HT.o.new He)).mono ?_;rintro e w1 ⟨rfl,Hb⟩;have GR:=kj.fr Hb;have bx:=GR.cell 0;have bl:=GR.lt;have Hc:=He.trans (Hb.mono (by simp));go_wp2_with fail;refine(K4.o _ (by exact HT.o.new Hc)).mono ?_;rintro e w2 ⟨rfl,Hg⟩;have oV:=hid (show Q9c T s=if 0≤QSb T s then(QSb T s,true)else(0,false)from rfl);have GD:-1≤QSb T s:=by rcases QSf T s with h|⟨i,_,h,_⟩ <;> omega
  generalize QSb T s=x at *
  by_cases hx:0≤x
  ·have hF:=hid (show Q9c T s=(x,true)from by rw[oV.o,if_pos hx]);go_wp2_with fail;go_ret2;have At:max x 0=x:=by omega
   exact⟨by rw[hX.o,hF.o];show Ending.returned (.tuple #[.int .i64 (max x 0),.bool true])=_;rw[At],Hc.trans (Hg.mono Hc.size)⟩
  have hF:=hid (show Q9c T s=(0,false)from by rw[oV.o,if_neg hx]);obtain rfl:x = -1:=by omega
  go_wp2_with fail;go_ret2;exact⟨by rw[hX.o,hF.o];rfl,Hc.trans (Hg.mono Hc.size)⟩
 have hz':(Qia T != 0)=true:=by simpa using hz
 have hX:=hid (show QYa T s=(0,false)from by unfold QYa;rw[if_pos hz]);have ki:=hid gd;clear gd hz;generalize Qia T=c at *
 go_enter func13,ntmps13;go_wp2_with fail;refine(ki.o _ (by exact HT.o.new He)).mono ?_;rintro e w1 ⟨rfl,Hb⟩;go_wp2_with fail;go_ret2;exact⟨by rw[hX.o];rfl,He.trans (Hb.mono (by simp))⟩
end
end Go.Proofs.YtgaboghigefgbaaGreatDoor
