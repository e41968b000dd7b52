/- Lemmas on the way to the law; no conditions. -/
import Derived.Test.YtgaboghigefgbaaGreatDoorZ28
import Derived.Test.YtgaboghigefgbaaGreatDoorZ20
set_option linter.all false
set_option maxRecDepth 100000
set_option maxHeartbeats 8000000
namespace Go.Proofs.YtgaboghigefgbaaGreatDoor
open Go.Proofs.Tryz
open Go.Lib (hid)
open Go.RowKit
theorem Q0g:∀a:List UInt8,(∀c∈a,c≠47)→Qvb a=[a]
 | [],_=>rfl
 | c::r,h=>by
  rw[Qvb,if_neg (h c List.mem_cons_self),Q0g r (fun x hx=>h x (List.mem_cons_of_mem _ hx))]
theorem Q8i:∀(a b:List UInt8),(∀c∈a,c≠47)→Qvb (a++47::b)=a::Qvb b
 | [],b,_=>by rw[List.nil_append,Qvb,if_pos rfl]
 | c::r,b,h=>by
  rw[List.cons_append,Qvb,if_neg (h c List.mem_cons_self),Q8i r b (fun x hx=>h x (List.mem_cons_of_mem _ hx))]
theorem QTj(s:ByteArray)(f i:Nat):(s.extract f i).data.toList=(s.data.toList.drop f).take (i-f):=by
 rw[ByteArray.data_extract,Array.toList_extract]
theorem Qln{s:ByteArray}{f i:Nat}(hi:i≤s.size)(h:∀j (hj:j<s.size),f≤j→j<i→s[j]≠47):∀c∈(s.data.toList.drop f).take (i-f),c≠47:=by
 intro c hc;obtain⟨j,hj,rfl⟩:=List.getElem_of_mem hc;have e1:s.size=s.data.toList.length:=by simp
 simp only[List.length_take,List.length_drop]at hj;rw[List.getElem_take,List.getElem_drop,Qvh s (f+j) (by omega)];exact h (f+j) (by omega) (by omega) (by omega)
def PSt(s:ByteArray)(f i:Nat):Prop:=f≤i∧(∀j (hj:j<s.size),f≤j→j<i→s[j]≠47)∧Qpc s=(Qvb (s.data.toList.drop f)).all QTa
theorem PSt.ends{s:ByteArray}{f:Nat}(h:PSt s f s.size):Qpc s=QTa (s.extract f s.size).data.toList:=by
 have e1:s.size=s.data.toList.length:=by simp
 have hf:=Qln (Nat.le_refl _) h.2.1;rw[h.2.2,QTj];rw[List.take_of_length_le (by rw[List.length_drop];omega)]at hf ⊢;rw[Q0g _ hf];simp
theorem PSt.cut{s:ByteArray}{f i:Nat}(h:PSt s f i)(hi:i<s.size)(hc:s[i]=47):Qpc s=(QTa (s.extract f i).data.toList&&(Qvb (s.data.toList.drop (i+1))).all QTa):=by
 have hf:=Qln (Nat.le_of_lt hi) h.2.1;have hd:=Qdb s i hi;have e:s.data.toList.drop f=(s.data.toList.drop f).take (i-f)++47::s.data.toList.drop (i+1):=by
  conv=>lhs;rw[←List.take_append_drop (i-f) (s.data.toList.drop f)]
  rw[List.drop_drop,show f+(i-f)=i from by have:=h.1;omega,hd,hc]
 rw[h.2.2,e,Q8i _ _ hf,QTj,List.all_cons]
theorem PSt.next{s:ByteArray}{f i:Nat}(h:PSt s f i)(hi:i<s.size)(hc:s[i]=47)(hn:QTa (s.extract f i).data.toList=true):PSt s (i+1) (i+1):=
 ⟨Nat.le_refl _,fun j _ a b=>by omega,by rw[h.cut hi hc,hn,Bool.true_and]⟩
theorem PSt.bad{s:ByteArray}{f i:Nat}(h:PSt s f i)(hi:i<s.size)(hc:s[i]=47)(hn:QTa (s.extract f i).data.toList=false):Qpc s=false:=by rw[h.cut hi hc,hn,Bool.false_and]
theorem PSt.on{s:ByteArray}{f i:Nat}(h:PSt s f i)(hi:i<s.size)(hc:s[i]≠47):PSt s f (i+1):=
 ⟨Nat.le_succ_of_le h.1,fun j hj a b=>by
  by_cases e:j=i
  ·subst e;exact hc
  exact h.2.1 j hj a (by omega),h.2.2⟩
theorem PSt.start{s:ByteArray}(h1:1<s.size)(h0:s[0]=47):PSt s 1 1:=by
 refine⟨Nat.le_refl _,fun j _ a b=>by omega,?_⟩;have hd:=Qdb s 0 (by omega);rw[List.drop_zero,h0]at hd;have e1:s.size=s.data.toList.length:=by simp
 have Hl:(s.data.toList.drop (0+1)).isEmpty=false:=by
  cases hx:s.data.toList.drop (0+1)with
  | nil=>have:=congrArg List.length hx;rw[List.length_drop]at this;simp at this;omega
  | cons a b=>rfl
 unfold Qpc;rw[hd];show(decide ((47:UInt8)=47)&&((s.data.toList.drop (0+1)).isEmpty||(Qvb (s.data.toList.drop (0+1))).all QTa))=_;rw[Hl,←hd]
 rfl
theorem QWk{s:ByteArray}(hr:¬s=⟨#[47]⟩)(h:s.size<2∨∃h:0<s.size,s[0]≠47):Qpc s=false:=by
 have e1:s.size=s.data.toList.length:=by simp
 unfold Qpc;cases hx:s.data.toList with
 | nil=>rfl
 | cons c r=>
  rcases h with h|⟨h,h0⟩
  ·rw[hx]at e1;have:r=[]:=by cases r with
    | nil=>rfl
    | cons a b=>simp at e1;omega
   subst this;have hc:c≠47:=fun e=>by
    subst e;exact hr (ByteArray.ext (Array.toList_inj.1 hx))
   simp[hc]
  have hd:=Qdb s 0 h;rw[List.drop_zero,hx]at hd;have:c=s[0]:=(List.cons.inj hd).1;rw[←this]at h0;simp[h0]
def LSt(s:ByteArray)(k i:Nat):Prop:=∃h:k<s.size,s[k]=47∧∀j (hj:j<s.size),k<j→j<i→s[j]≠47
theorem LSt.o{s:ByteArray}{k:Nat}(h:LSt s k s.size):s.extract 0 (max k 1)=Qzb s∧s.extract (k+1) s.size=Qbd s:=by
 obtain⟨hk,h1,h2⟩:=h;exact Qpn s k hk h1 (fun j hj hkj=>h2 j hj hkj hj)
theorem LSt.on{s:ByteArray}{k i:Nat}(h:LSt s k i)(hi:i<s.size)(hc:s[i]≠47):LSt s k (i+1):=by
 obtain⟨hk,h1,h2⟩:=h;refine⟨hk,h1,fun j hj a b=>?_⟩;by_cases e:j=i
 ·subst e;exact hc
 exact h2 j hj a (by omega)
theorem LSt.hit{s:ByteArray}{i:Nat}(hi:i<s.size)(hc:s[i]=47):LSt s i (i+1):=⟨hi,hc,fun j _ a b=>by omega⟩
theorem LSt.root{s:ByteArray}(h:LSt s 0 s.size):Qzb s=⟨#[47]⟩:=by
 rw[←h.o.1];obtain⟨h0,h1,_⟩:=h;apply Qlc;rw[QTj,List.drop_zero,show max 0 1-0=1 from rfl];have hd:=Qdb s 0 h0;rw[List.drop_zero]at hd;rw[hd,h1]
 rfl
theorem Qtj(c:UInt8):(((c.toNat:Int)==47)=true↔c=47):=by
 rw[beq_iff_eq];constructor
 ·intro h;have h2:c.toNat=(47:UInt8).toNat:=by
   have:(47:UInt8).toNat=47:=rfl;omega
  exact UInt8.toNat_inj.1 h2
 rintro rfl;rfl
theorem Quj(c:UInt8):(((c.toNat:Int)==47)=false↔c≠47):=by
 rw[←Bool.not_eq_true,Qtj]
theorem Qcs(s:ByteArray)(w:World)(hs:s.size≤2000000) :
 Calls prog 101 #[.string s] w fun e w'=>e=.returned (.bool (Qpc s))∧w=w':=by
 cases hr:(s.toList == [47])with
 | true=>
  have HR:=hid (show Qpc s=true from by rw[(QCa s ⟨#[47]⟩).1 (by rw[←hr,←Qdg];rfl)];exact Q3i);go_enter func101,ntmps101;go_wp2_with fail;go_ret;exact⟨Qka (by rw[HR.o]),rfl⟩
 | false=>
  have Hl:¬s=⟨#[47]⟩:=fun e=>by
   have h:=(Qdg s).trans hr;unfold Q8h at h;rw[(QCa s ⟨#[47]⟩).2 e]at h;cases h
  by_cases h2:s.size<2
  ·have HR:=hid (QWk Hl (.inl h2));have zG:(s.size:Int)<2:=by omega
   clear Hl h2;go_enter func101,ntmps101;go_wp2_with fail;go_ret;exact⟨Qka (by rw[HR.o]),rfl⟩
  have zG:¬(s.size:Int)<2:=by omega
  have h0:0<s.size:=by omega
  by_cases hc:s[0]=47
  ·have oN:((s[0].toNat:Int) != 47)=false:=by rw[bne,(Qtj _).2 hc];rfl
   have KL:=hid (PSt.start (s:=s) (by omega) hc);clear Hl hc;go_enter func101,ntmps101;go_wp2_with fail;go_loopg [3,4] (s.size+1) (fun f x y wr=>∃a i:Nat,x=.int .i64 a∧y=.int .i64 i∧1≤i∧a≤s.size+1∧i≤s.size+1∧s.size+1≤i+f∧w=wr∧Hid (i≤s.size→PSt s a i)∧Hid (s.size<i→Qpc s=true))
   case atStart=>exact⟨1,1,rfl,rfl,by omega,by omega,by omega,by omega,rfl,hid (fun _=>KL.o),hid (fun h=>by omega)⟩
   case round=>
    obtain⟨a,i,rfl,rfl,Kb,ha,hi,hf,rfl,HP,HT⟩:=hrel;by_cases Hh:i<s.size
    ·have hi1I:((i:Int)≤(s.size:Int)):=by omega
     have Hl:((i:Int)==(s.size:Int))=false:=by simp;omega
     have Gt:=HP.o (by omega);have Ag:=Gt.1;by_cases KY:s[i]=47
     ·have oN:((s[i].toNat:Int)==47)=true:=(Qtj _).2 KY;have HN:=hid (fun wx=>Qxd (s.extract a i) wx (by unfold maxLen;simp;omega));have hq:=hid (fun h=>Gt.bad Hh KY h);have KI:=hid (fun h=>Gt.next Hh KY h);clear Gt KY HP HT;have hv:QTa (s.extract a i).data.toList=true∨QTa (s.extract a i).data.toList=false:=by cases QTa (s.extract a i).data.toList <;> simp
      rcases hv with hv|hv
      ·have HG:=hid (KI.o hv);rw[hv]at HN;clear hv hq KI;go_wp2_with fail;refine Calls.mono (by exact HN.o _) ?_;rintro e w2 ⟨rfl,rfl⟩;go_wp2_with fail;go_roundg (gk-1)
       case measure=>omega
       case rel=>exact⟨i+1,i+1,by go_num,by go_num,by omega,by omega,by omega,by omega,rfl,hid (fun _=>HG.o),hid (fun h=>by omega)⟩
      have HG:=hid (hq.o hv);rw[hv]at HN;clear hv hq KI;go_wp2_with fail;refine Calls.mono (by exact HN.o _) ?_;rintro e w2 ⟨rfl,rfl⟩;go_wp2_with fail;go_ret;exact⟨Qka (by rw[HG.o]),rfl⟩
     have oN:((s[i].toNat:Int)==47)=false:=(Quj _).2 KY;have HG:=hid (Gt.on Hh KY);clear Gt KY HP HT;go_wp2_with fail;go_roundg (gk-1)
     case measure=>omega
     case rel=>exact⟨a,i+1,rfl,by go_num,by omega,by omega,by omega,by omega,rfl,hid (fun _=>HG.o),hid (fun h=>by omega)⟩
    by_cases hend:i=s.size
    ·subst hend;have Gt:=HP.o (by omega);have Ag:=Gt.1;have HN:=hid (fun wx=>Qxd (s.extract a s.size) wx (by unfold maxLen;simp;omega));have hq:=hid Gt.ends;clear Gt HP HT;have hv:QTa (s.extract a s.size).data.toList=true∨QTa (s.extract a s.size).data.toList=false:=by cases QTa (s.extract a s.size).data.toList <;> simp
     rcases hv with hv|hv
     ·have HG:=hid (hq.o.trans hv);rw[hv]at HN;clear hv hq;go_wp2_with fail;refine Calls.mono (by exact HN.o _) ?_;rintro e w2 ⟨rfl,rfl⟩;go_wp2_with fail;go_roundg (gk-1)
      case measure=>omega
      case rel=>exact⟨s.size+1,s.size+1,by go_num,by go_num,by omega,by omega,by omega,by omega,rfl,hid (fun h=>by omega),hid (fun _=>HG.o)⟩
     have HG:=hid (hq.o.trans hv);rw[hv]at HN;clear hv hq;go_wp2_with fail;refine Calls.mono (by exact HN.o _) ?_;rintro e w2 ⟨rfl,rfl⟩;go_wp2_with fail;go_ret;exact⟨Qka (by rw[HG.o]),rfl⟩
    have hgt:¬((i:Int)≤(s.size:Int)):=by omega
    have HG:=hid (HT.o (by omega));go_wp2_with fail;go_ret;exact⟨Qka (by rw[HG.o]),rfl⟩
  have oN:((s[0].toNat:Int) != 47)=true:=by rw[bne,(Quj _).2 hc];rfl
  have HR:=hid (QWk Hl (.inr ⟨h0,hc⟩));clear Hl hc;go_enter func101,ntmps101;go_wp2_with fail;go_ret;exact⟨Qka (by rw[HR.o]),rfl⟩
theorem Qro(s:ByteArray)(w:World)(hs0:∃r,s.data.toList=47::r)(hs:s.size≤9223372036854775807) :
 Calls prog 102 #[.string s] w fun e w'=>e=.returned (.tuple #[.string (Qzb s),.string (Qbd s)])∧Below w.heap.size w w':=by
 have hsz:0<s.size:=by
  obtain⟨r,hr⟩:=hs0;have:=congrArg List.length hr;have e1:s.size=s.data.toList.length:=by simp
  rw[e1,hr];simp
 have h0:s[0]=47:=by
  obtain⟨r,hr⟩:=hs0;have hd:=Qdb s 0 hsz;rw[List.drop_zero,hr]at hd;exact(List.cons.inj hd).1.symm
 have nh:=hid (show LSt s 0 0 from⟨hsz,h0,fun j _ a b=>by omega⟩);clear hs0 h0;go_enter func102,ntmps102;go_wp2_with fail;go_loopg [4,5] (s.size) (fun f x y wr=>∃a i:Nat,x=.int .i64 a∧y=.int .i64 i∧a<s.size∧i≤s.size∧s.size≤i+f∧w=wr∧Hid (LSt s a i))
 case atStart=>exact⟨0,0,rfl,rfl,by omega,by omega,by omega,rfl,nh⟩
 case round=>
  obtain⟨a,i,rfl,rfl,ha,hi,hf,rfl,HL⟩:=hrel;by_cases Hh:i<s.size
  ·have lz:((i:Int)<(s.size:Int)):=by omega
   by_cases KY:s[i]=47
   ·have oN:((s[i].toNat:Int)==47)=true:=(Qtj _).2 KY;have HG:=hid (LSt.hit Hh KY);clear KY HL nh;go_wp2_with fail;go_roundg (gk-1)
    case measure=>omega
    case rel=>exact⟨i,i+1,rfl,by go_num,by omega,by omega,by omega,rfl,HG⟩
   have oN:((s[i].toNat:Int)==47)=false:=(Quj _).2 KY;have HG:=hid (HL.o.on Hh KY);clear KY HL nh;go_wp2_with fail;go_roundg (gk-1)
   case measure=>omega
   case rel=>exact⟨a,i+1,rfl,by go_num,by omega,by omega,by omega,rfl,HG⟩
  have lz:¬((i:Int)<(s.size:Int)):=by omega
  obtain rfl:i=s.size:=by omega
  have MK:=HL.o.o;by_cases ha0:a=0
  ·subst ha0;have E1:=hid (show Qzb s=⟨#[47]⟩from HL.o.root);have E2:=hid (show s.extract 1 s.size=Qbd s from MK.2);have wS:(1:Int)≤(s.size:Int):=by omega
   clear MK HL nh;go_wp2_with fail;go_region;go_wp2_with fail;go_ret2;exact⟨by rw[E1.o,←E2.o];rfl,(Below.refl _ _).drew⟩
  have KN:((a:Int)==0)=false:=by simp;omega
  have E1:=hid (show s.extract 0 a=Qzb s from by rw[←MK.1,show max a 1=a from by omega]);have E2:=hid (show s.extract (a+1) s.size=Qbd s from MK.2);have haI:(a:Int)≤(s.size:Int):=by omega
  have fX:(a:Int)+1≤(s.size:Int):=by omega
  clear MK HL nh ha0;go_wp2_with fail;go_region;go_wp2_with fail;go_ret2;exact⟨by rw[←E1.o,←E2.o];rfl,(Below.refl _ _).drew⟩
theorem Qws(x:Qga)(hu:¬256<x.value.size):Qwb x=(Qpc x.path&&if x.kind=1 then(!(x.path.toList == [47])&&(x.name.toList.isEmpty&&x.value.toList.isEmpty))else if x.kind=2 then Q6a x.name else if x.kind=3 then(Q6a x.name&&x.value.toList.isEmpty)else false):=by
 unfold Qwb;rw[QCb,QCb,Qdg];cases hp:Qpc x.path with
 | false=>simp
 | true=>
  rw[if_neg (by simp;omega),Bool.true_and];by_cases h1:x.kind=1
  ·rw[if_pos h1,if_pos h1];cases(x.path.toList == [47]) <;> cases x.name.toList.isEmpty <;> cases x.value.toList.isEmpty <;> rfl
  rw[if_neg h1,if_neg h1];by_cases h2:x.kind=2
  ·rw[if_pos (.inl h2),if_pos h2]
  rw[if_neg h2];by_cases h3:x.kind=3
  ·rw[if_pos h3];cases h4:x.value.toList.isEmpty with
   | true=>rw[if_pos (.inr ⟨h3,rfl⟩)];simp
   | false=>rw[if_neg (fun h=>h.elim h2 (fun h=>by cases h.2))];simp
  rw[if_neg h3,if_neg (fun h=>h.elim h2 (fun h=>h3 h.1))]
theorem Qds(x:Qga)(w:World)(hs:x.path.size≤2000000)(ko:x.name.size≤9223372036854775807)(hu:¬256<x.value.size) :
 Calls prog 55 #[.agg #[.int .i64 x.kind,.string x.path,.string x.name,.string x.value]] w fun e w'=>e=.returned (.bool (Qwb x))∧Below w.heap.size w w':=by
 have He:Below w.heap.size w (w.alloc (.cells #[.int .i64 x.kind,.string x.path,.string x.name,.string x.value] 39)):=Bq;have HP:=hid (fun wx=>Qcs x.path wx hs);have HQ:=hid (fun wx=>Q0c x.name wx ko);have hV:=Qws x hu;generalize Qwb x=V at *
 obtain⟨k,p,n,u⟩:=x;simp only at hV HP HQ He ⊢;generalize Qpc p=b1 at *
 generalize Q6a n=b5 at *
 clear hs ko hu;have hk:k=1∨k=2∨k=3∨(k≠1∧k≠2∧k≠3):=by omega
 rcases hk with rfl|rfl|rfl|⟨k1,k2,k3⟩
 ·rw[if_pos rfl]at hV;cases b1 <;> cases h2:(p.toList == [47]) <;> cases h3:n.toList.isEmpty <;> cases h4:u.toList.isEmpty
  all_goals
   rw[h2,h3,h4]at hV;have HR:=hid hV;clear hV;go_enter func55,ntmps55;go_wp2_with(first | (go_at_call 101;refine(HP.o _).mono ?_;rintro e w' ⟨rfl,rfl⟩));go_ret;exact⟨Qka (by rw[HR.o];rfl),He⟩
 ·rw[if_neg (by decide),if_pos rfl]at hV;cases b1 <;> cases b5
  all_goals
   have HR:=hid hV;clear hV;go_enter func55,ntmps55;go_wp2_with(first | (go_at_call 101;refine(HP.o _).mono ?_;rintro e w' ⟨rfl,rfl⟩) | (go_at_call 64;refine(HQ.o _).mono ?_;rintro e w' ⟨rfl,rfl⟩));go_ret;exact⟨Qka (by rw[HR.o];rfl),He⟩
 ·rw[if_neg (by decide),if_neg (by decide),if_pos rfl]at hV;cases b1 <;> cases b5 <;> cases h4:u.toList.isEmpty
  all_goals
   rw[h4]at hV;have HR:=hid hV;clear hV;go_enter func55,ntmps55;go_wp2_with(first | (go_at_call 101;refine(HP.o _).mono ?_;rintro e w' ⟨rfl,rfl⟩) | (go_at_call 64;refine(HQ.o _).mono ?_;rintro e w' ⟨rfl,rfl⟩));go_ret;exact⟨Qka (by rw[HR.o];rfl),He⟩
 rw[if_neg k1,if_neg k2,if_neg k3,Bool.and_false]at hV;have HR:=hid hV;have kb1:(k==1)=false:=by simpa using k1
 have kb2:(k==2)=false:=by simpa using k2
 have kb3:(k==3)=false:=by simpa using k3
 clear hV k1 k2 k3;go_enter func55,ntmps55;go_wp2_with fail;go_ret;exact⟨Qka (by rw[HR.o]),He⟩
theorem Qpj{p:Qga→Bool}{l:List Qga}{k:Nat}(hk:k<l.length)(h:p l[k]=true):l.any p=true:=List.any_eq_true.2 ⟨l[k],List.getElem_mem hk,h⟩
theorem Qrj{p:Qga→Bool}{l:List Qga}{k:Nat}(hk:l.length≤k)(h:∀j (hj:j<l.length),j<k→p l[j]=false):l.any p=false:=by
 rw[←Bool.not_eq_true,List.any_eq_true];rintro⟨x,hx,h2⟩;obtain⟨j,hj,rfl⟩:=List.getElem_of_mem hx;rw[h j hj (by omega)]at h2;cases h2
theorem QUt{l:List Qga}{j:Nat}(h1:1≤j)(hj:j<l.length)(hk:j-1<l.length)(h:ltE l[j-1] l[j]=false):Qck l=false:=by
 obtain⟨k,rfl⟩:∃k,j=k+1:=⟨j-1,by omega⟩;exact QYo hj (by simpa using h)
theorem Qqr{l:List Qga}{j:Nat}(h1:1≤j)(hj:j<l.length)(hk:j-1<l.length)(hp:∀i (hi:i+1<l.length),i+1<j→ltE l[i] l[i+1]=true)(h:ltE l[j-1] l[j]=true):∀i (hi:i+1<l.length),i+1<j+1→ltE l[i] l[i+1]=true:=by
 intro i hi kV;by_cases e:i+1=j
 ·subst e;simpa using h
 exact hp i hi (by omega)
theorem Qcg(nm:ByteArray)(v:Value)(l:List Qga)(w:World)(hE:QFa w v l)(Ht:nm.size≤maxLen)(hz:Qyb l) :
 Calls prog 21 #[.agg #[.string nm,v]] w fun e w'=>e=.returned (.int .i64 (Qva nm l))∧Below w.heap.size w w':=by
 obtain⟨a,cap,rfl,gy,gh⟩:=hE.slice;have hC:Qva nm l=if 40<l.length∨l.any (fun x=>decide (256<x.value.size))=true then 3 else if QTa nm.data.toList=false∨l.any (fun x=>!Qwb x)=true then 1 else if Qck l=false then 12 else 0:=rfl;generalize Qva nm l=C at *
 have gK:=hid (show Below w.heap.size w (w.alloc (.cells #[.string nm,.slice a l.length cap] 31))from Bq);have l9:=hid (Holds.new w #[.string nm,.slice a l.length cap] 31);have HN:=hid (fun wx=>Qxd nm wx Ht);have HE:=hid hE;have HZ:=hid hz;have HC:=hid hC;clear Ht hE hz hC;by_cases h40:40<l.length
 ·have hR:=hid (HC.o.trans (if_pos (.inl h40)));have fC:(40:Int)<(l.length:Int):=by omega
  go_enter func21,ntmps21;go_wp2_with fail;go_ret;exact⟨by rw[hR.o];rfl,gK.o⟩
 have fC:¬(40:Int)<(l.length:Int):=by omega
 go_enter func21,ntmps21;go_wp2_with fail;go_loopg [15] (l.length) (fun f x wr=>∃k:Nat,x=.int .i64 k∧k≤l.length∧l.length≤k+f∧Hid (∀j (hj:j<l.length),j<k→decide (256<l[j].value.size)=false)∧Hid (Holds wr w.heap.size #[.string nm,.slice a l.length cap] 31)∧Hid (Below w.heap.size w wr))
 case atStart=>exact⟨0,rfl,by omega,by omega,hid (fun j _ h=>by omega),l9,gK⟩
 case round=>
  obtain⟨k,rfl,hk,hf,HP,HH,HB⟩:=hrel;have Hy:=HB.o.size;by_cases Hh:k<l.length
  ·have GJ:(k:Int)<(l.length:Int):=by omega
   obtain⟨g,o,e1,hg,Hw⟩:=Q7a (HE.o.new HB.o) (by omega);subst e1;obtain⟨d0,d1,d2,d3⟩:=Hw k Hh;have HS:=hid (fun h=>HC.o.trans (if_pos (.inr (Qpj (p:=fun x=>decide (256<x.value.size)) Hh h))));have HG:=hid (show decide (256<l[k].value.size)=false→∀j (hj:j<l.length),j<k+1→decide (256<l[j].value.size)=false from fun h j hj ip=>by
    by_cases e:j=k
    ·subst e;exact h
    exact HP.o j hj (by omega))
   clear Hw;generalize l[k]=x at *
   by_cases hbig:256<x.value.size
   ·have qY:(256:Int)<(x.value.size:Int):=by omega
    have HR:=hid (HS.o (decide_eq_true hbig));clear HS HG hbig;go_wp2_with fail;go_ret;exact⟨by rw[HR.o];rfl,HB.o.alloc Hy _⟩
   have qY:¬(256:Int)<(x.value.size:Int):=by omega
   have HR:=hid (HG.o (decide_eq_false hbig));clear HS HG hbig;go_wp2_with fail;go_roundg (gk-1)
   case measure=>omega
   case rel=>exact⟨k+1,by go_num,by omega,by omega,HR,hid (HH.o.alloc _),hid (HB.o.alloc Hy _)⟩
  have GJ:¬(k:Int)<(l.length:Int):=by omega
  have MA:=hid (show ∀x∈l,¬256<x.value.size from fun x hx=>by
   obtain⟨j,hj,rfl⟩:=List.getElem_of_mem hx;simpa using HP.o j hj (by omega))
  have MY:=hid (HC.o.trans (if_neg (fun h=>h.elim h40 (fun h=>by rw[Qrj (show l.length≤k by omega) HP.o]at h;cases h))));have o0:=HH.o.cell 0;have o1:=HH.o.cell 1;have ol:=HH.o.lt;clear HP HC hf hk Hh h40 gK l9;cases hn:QTa nm.data.toList with
  | false=>
   have HR:=hid (MY.o.trans (if_pos (.inl hn)));rw[hn]at HN;clear hn;go_wp2_with fail;refine Calls.mono (by exact HN.o _) ?_;rintro e w2 ⟨rfl,rfl⟩;go_wp2_with fail;go_ret;exact⟨by rw[HR.o];rfl,HB.o⟩
  | true=>
   rw[hn]at HN;have mr:=hid hn;clear hn;go_wp2_with fail;refine Calls.mono (by exact HN.o _) ?_;rintro e w2 ⟨rfl,rfl⟩;obtain⟨wo,rfl⟩:∃x:World,x=wr:=⟨_,rfl⟩;obtain⟨go,rfl⟩:∃x:Nat,x=gk:=⟨_,rfl⟩;go_wp2_with fail;go_loopg [31] (l.length) (fun f x wr=>∃k:Nat,x=.int .i64 k∧k≤l.length∧l.length≤k+f∧Hid (∀j (hj:j<l.length),j<k→(!Qwb l[j])=false)∧Hid (Holds wr w.heap.size #[.string nm,.slice a l.length cap] 31)∧Hid (Below w.heap.size w wr))
   case atStart=>exact⟨0,rfl,by omega,by omega,hid (fun j _ h=>by omega),HH,HB⟩
   case round=>
    clear o0 o1 ol Hy HB HH;obtain⟨k,rfl,hk,hf,HP,HH,HB⟩:=hrel;have Hy:=HB.o.size;by_cases Hh:k<l.length
    ·have GJ:(k:Int)<(l.length:Int):=by omega
     obtain⟨g,o,e1,hg,Hw⟩:=Q7a (HE.o.new HB.o) (by omega);subst e1;obtain⟨d0,d1,d2,d3⟩:=Hw k Hh;have HS:=hid (fun h=>MY.o.trans (if_pos (.inr (Qpj (p:=fun x=>!Qwb x) Hh h))));have HG:=hid (show(!Qwb l[k])=false→∀j (hj:j<l.length),j<k+1→(!Qwb l[j])=false from fun h j hj ip=>by
      by_cases e:j=k
      ·subst e;exact h
      exact HP.o j hj (by omega))
     have MX:=List.getElem_mem Hh;have yD:=HZ.o _ MX;have K5:=MA.o _ MX;clear Hw MX;generalize l[k]=x at *
     have MZ:=hid (fun wx=>Qds x wx yD.1 (by omega) K5);clear yD K5;have gF:=hid (HB.o.alloc Hy (.cells #[.int .i64 x.kind,.string x.path,.string x.name,.string x.value] 39));have rY:=hid (HH.o.alloc (.cells #[.int .i64 x.kind,.string x.path,.string x.name,.string x.value] 39));have hv:Qwb x=true∨Qwb x=false:=by cases Qwb x <;> simp
     rcases hv with hv|hv
     ·have HR:=hid (HG.o (by rw[hv];rfl));rw[hv]at MZ;clear HS HG hv;go_wp2_with fail;refine Calls.mono (by exact MZ.o _) ?_;rintro e w3 ⟨rfl,Hg⟩;have kC:=hid (gF.o.trans (Hg.mono gF.o.size));have cw:=hid (rY.o.fr Hg);clear Hg d0 d1 d2 d3 hg;go_wp2_with fail;go_roundg (gk-1)
      case measure=>omega
      case rel=>exact⟨k+1,by go_num,by omega,by omega,HR,cw,kC⟩
     have HR:=hid (HS.o (by rw[hv];rfl));rw[hv]at MZ;clear HS HG hv;go_wp2_with fail;refine Calls.mono (by exact MZ.o _) ?_;rintro e w3 ⟨rfl,Hg⟩;have kC:=hid (gF.o.trans (Hg.mono gF.o.size));clear Hg d0 d1 d2 d3 hg;go_wp2_with fail;go_ret;exact⟨by rw[HR.o];rfl,kC.o⟩
    have GJ:¬(k:Int)<(l.length:Int):=by omega
    have l4:=hid (MY.o.trans (if_neg (fun h=>h.elim (fun h=>by rw[mr.o]at h;cases h) (fun h=>by rw[Qrj (show l.length≤k by omega) HP.o]at h;cases h))));obtain⟨wp,rfl⟩:∃x:World,x=wr:=⟨_,rfl⟩;obtain⟨gp,rfl⟩:∃x:Nat,x=gk:=⟨_,rfl⟩;clear HP MY hf hk Hh;go_wp2_with fail;go_loopg [7] (l.length) (fun f x wr=>∃k:Nat,x=.int .i64 k∧1≤k∧k≤l.length+1∧l.length≤k+f∧Hid (∀j (hj:j+1<l.length),j+1<k→ltE l[j] l[j+1]=true)∧Hid (Holds wr w.heap.size #[.string nm,.slice a l.length cap] 31)∧Hid (Below w.heap.size w wr))
    case atStart=>exact⟨1,rfl,by omega,by omega,by omega,hid (fun j _ h=>by omega),HH,HB⟩
    case round=>
     clear Hy HB HH;obtain⟨k,rfl,Ga,hk,hf,HP,HH,HB⟩:=hrel;have Hy:=HB.o.size;have o1:=HH.o.cell 1;have ol:=HH.o.lt;by_cases Hh:k<l.length
     ·have GJ:(k:Int)<(l.length:Int):=by omega
      have Jp:k-1<l.length:=by omega
      obtain⟨g,o,e1,hg,Hw⟩:=Q7a (HE.o.new HB.o) (by omega);subst e1;obtain⟨d0,d1,d2,d3⟩:=Hw (k-1) Jp;obtain⟨f0,f1,f2,f3⟩:=Hw k Hh;have HS:=hid (fun h=>l4.o.trans (if_pos (QUt Ga Hh Jp h)));have HG:=hid (Qqr Ga Hh Jp HP.o);have wk:IntKind.i64.wrap ((k:Int)-1)=(k:Int)-1:=IntWalk.i64_in _ (by omega);have wk0:(0:Int)≤(k:Int)-1:=by omega
      have wk1:((k:Int)-1).toNat=k-1:=by omega
      have wk2:(k:Int)-1<(l.length:Int):=by omega
      clear Hw;generalize l[k]=y at *
      generalize l[k-1]=x at *
      have iO:=hid (fun wx=>Q4i x y wx);have hv:ltE x y=true∨ltE x y=false:=by cases ltE x y <;> simp
      rcases hv with hv|hv
      ·have HR:=hid (HG.o hv);rw[hv]at iO;clear HS HG hv;go_wp2_with fail
       go_region_with (go_at_call 56;refine(iO.o _).mono ?_;rintro e w3 ⟨rfl,Hg⟩)
       all_goals
        have aQ:Below wr.heap.size wr wr.drew:=(Below.refl _ _).drew;have Hu:=aQ.trans Hg;have kC:=hid (HB.o.trans (Hu.mono HB.o.size));have cw:=hid (HH.o.fr Hu);clear aQ Hg Hu d0 d1 d2 d3 f0 f1 f2 f3 hg o1 ol wk wk0 wk1 wk2;go_wp2_with fail;go_roundg (gk-1)
        case measure=>omega
        case rel=>exact⟨k+1,by go_num,by omega,by omega,by omega,HR,cw,kC⟩
      have HR:=hid (HS.o hv);rw[hv]at iO;clear HS HG hv;go_wp2_with fail
      go_region_with (go_at_call 56;refine(iO.o _).mono ?_;rintro e w3 ⟨rfl,Hg⟩)
      all_goals
       have aQ:Below wr.heap.size wr wr.drew:=(Below.refl _ _).drew;have Hu:=aQ.trans Hg;have kC:=hid (HB.o.trans (Hu.mono HB.o.size));clear aQ Hg Hu d0 d1 d2 d3 f0 f1 f2 f3 hg o1 ol wk wk0 wk1 wk2;go_wp2_with fail;go_ret;exact⟨by rw[HR.o];rfl,kC.o⟩
     have GJ:¬(k:Int)<(l.length:Int):=by omega
     have HR:=hid (l4.o.trans (if_neg (by rw[QEl l (fun i hi=>HP.o i hi (by omega))];decide)));go_wp2_with fail;go_ret;exact⟨by rw[HR.o];rfl,HB.o⟩
structure QQt(ob ab rb:Nat)(om:ByteArray)(ov:Value)(O:List Qga)(an:ByteArray)(av:Value)(A:List Qga)(rn:ByteArray)(rv:Value)(R:List Qga)(w:World):Prop where
 o:Holds w ob #[.string om,ov] 31
 a:Holds w ab #[.string an,av] 31
 r:Holds w rb #[.string rn,rv] 31
 eo:QFa w ov O
 ea:QFa w av A
 er:QFa w rv R
 lay:Qah w
theorem QQt.keep{ob ab rb:Nat}{om:ByteArray}{ov:Value}{O:List Qga}{an:ByteArray}{av:Value}{A:List Qga}{rn:ByteArray}{rv:Value}{R:List Qga}{w w':World}(h:QQt ob ab rb om ov O an av A rn rv R w)(b:Below w.heap.size w w'):QQt ob ab rb om ov O an av A rn rv R w':=
 have k:=Qaa.of_fresh b (fun _=>False)
 ⟨h.o.keeps k (fun e=>e),h.a.keeps k (fun e=>e),h.r.keeps k (fun e=>e),h.eo.new b,h.ea.new b,h.er.new b,h.lay.keeps k (fun e=>e)⟩
noncomputable def Qke:Array Oper:=(QPa (Tryz.f6.body.getD .skip) 9).getD #[]
theorem Qdv:Q0b .any Qke=true:=by kernel_rfl
theorem Qfd:QRb Qke=true:=by kernel_rfl
theorem Qtt:Qke.size=23:=by kernel_rfl
def QTo(_ _ _:Nat)(om:ByteArray)(oa:Option Addr)(oc:Nat)(O:List Qga)(an:ByteArray)(aa:Option Addr)(ac:Nat)(E:List Qga)(rn:ByteArray)(ra:Option Addr)(rc:Nat)(R:List Qga)(j:Nat):Value→World→Prop:=match j with
 | 0=>fun u _=>u=.agg #[.string om,.slice oa O.length oc]
 | 1=>fun u _=>u=.int .i64 (Qva om O)
 | 2=>fun u _=>u=.agg #[.string om,.slice oa O.length oc]
 | 3=>fun u _=>u=.int .i64 (Qva om O)
 | 4=>fun u _=>u=.bool false
 | 5=>fun u _=>u=.bool false
 | 6=>fun u _=>u=.agg #[.string om,.slice oa O.length oc]
 | 7=>fun u _=>u=.agg #[.string an,.slice aa E.length ac]
 | 8=>fun u _=>u=.bool (decide (om=an∧O=E))
 | 9=>fun u _=>u=.agg #[.string om,.slice oa O.length oc]
 | 10=>fun u _=>u=.agg #[.string an,.slice aa E.length ac]
 | 11=>fun u _=>u=.bool (decide (om=an∧O=E))
 | 12=>fun u _=>u=.bool false
 | 13=>fun u _=>u=.bool false
 | 14=>fun u _=>u=.bool false
 | 15=>fun u _=>u=.agg #[.string rn,.slice ra R.length rc]
 | 16=>fun u _=>u=.agg #[.string om,.slice oa O.length oc]
 | 17=>fun u _=>u=.bool (decide (rn=om∧R=O))
 | 18=>fun u _=>u=.agg #[.string rn,.slice ra R.length rc]
 | 19=>fun u _=>u=.agg #[.string om,.slice oa O.length oc]
 | 20=>fun u _=>u=.bool (decide (rn=om∧R=O))
 | 21=>fun u _=>u=.bool false
 | 22=>fun u _=>u=.bool false
 | _=>fun _ _=>True
def QHi(ob ab rb:Nat)(om:ByteArray)(oa:Option Addr)(oc:Nat)(O:List Qga)(an:ByteArray)(aa:Option Addr)(ac:Nat)(E:List Qga)(rn:ByteArray)(ra:Option Addr)(rc:Nat)(R:List Qga)(w:World):Prop:=QQt ob ab rb om (.slice oa O.length oc) O an (.slice aa E.length ac) E rn (.slice ra R.length rc) R w
section
variable{ob ab rb:Nat}{om:ByteArray}{oa:Option Addr}{oc:Nat}{O:List Qga}{an:ByteArray}{aa:Option Addr}{ac:Nat}{E:List Qga}{rn:ByteArray}{ra:Option Addr}{rc:Nat}{R:List Qga}{w w':World}
theorem QTo.stable{j:Nat}{u:Value}(h:QTo ob ab rb om oa oc O an aa ac E rn ra rc R j u w)(k:Below w.heap.size w w'):QTo ob ab rb om oa oc O an aa ac E rn ra rc R j u w':=by
 unfold QTo at *
 split at h
 all_goals first
  | exact h
  | (obtain⟨nB,e,hh⟩:=h;exact⟨nB,e,hh.fr k⟩)
end
theorem Qhm{Q:Exit→Act→World→Prop}(ob ab rb:Nat)(om:ByteArray)(oa:Option Addr)(oc:Nat)(O:List Qga)(an:ByteArray)(aa:Option Addr)(ac:Nat)(E:List Qga)(rn:ByteArray)(ra:Option Addr)(rc:Nat)(R:List Qga)(W w:World)(A:Act)(hsz:A.tmps.size=161)(hom:om.size≤maxLen)(hzo:Qyb O)(iu:O.length≤1000000)
 (a12:A.tmps.getD 12 undef=.pointer (some ⟨ob,0,none⟩)) (a9:A.tmps.getD 9 undef=.pointer (some ⟨ab,0,none⟩)) (a4:A.tmps.getD 4 undef=.pointer (some ⟨rb,0,none⟩)) (hC0:QHi ob ab rb om oa oc O an aa ac E rn ra rc R W) (hE0:Below W.heap.size W w)
 (hQ:∀c w',Qpb Qke A c→c.tmps.getD 81 undef=.bool false→Below W.heap.size W w'→Q .normal c w') :
 wpAny prog .any Qke Q Qke.size (Array.replicate Qke.size false) A w:=by
 refine QNa (fun l c wx=>Qsb Qke A (QTo ob ab rb om oa oc O an aa ac E rn ra rc R) (fun _=>True) l c wx∧Below W.heap.size W wx) Qdv ?hend ?Hk _ _ _ _ (by simp) (by simp) ⟨Qsb.start trivial,hE0⟩
 case hend=>
  rintro l c wx ⟨hI,hS⟩ hl;have hh:∀k,k<23→l.getD k false=true:=fun k hk=>hl k (by rw[Qtt];exact hk);exact hQ c wx hI.1.1 (hI.fact 22 81 rfl (hh 22 (by decide))) hS
 intro l c wx KV i' op ho hl Ha K' hK';obtain⟨hI,hS⟩:=KV;have ke:l.size=23:=by rw[hI.1.2.2.1.1,Qtt]
 have hi':i'<23:=by rw[←Qtt];exact(Array.getElem?_eq_some_iff.1 ho).1
 have Hf:=ho;simp only[Qke,QPa,Tryz.f6,Option.getD_some,reduceIte,Nat.reduceEqDiff]at ho;have s12:=(hI.slot 12 (by kernel_rfl)).trans a12;have s9:=(hI.slot 9 (by kernel_rfl)).trans a9;have s4:=(hI.slot 4 (by kernel_rfl)).trans a4;have fs:=And.intro True.intro True.intro;simp only[Array.getD_eq_getD_getElem?]at s12 s9 s4;have ig:Qke[5]?.bind (fun x=>x.dst)=some 64:=by kernel_rfl
 have jp:Qke[14]?.bind (fun x=>x.dst)=some 73:=by kernel_rfl
 have GB:i'=0∨i'=1∨i'=2∨i'=3∨i'=4∨i'=5∨i'=6∨i'=7∨i'=8∨i'=9∨i'=10∨i'=11∨i'=12∨i'=13∨i'=14∨i'=15∨i'=16∨i'=17∨i'=18∨i'=19∨i'=20∨i'=21∨i'=22:=by omega
 clear hi';rcases GB with rfl|rfl|rfl|rfl|rfl|rfl|rfl|rfl|rfl|rfl|rfl|rfl|rfl|rfl|rfl|rfl|rfl|rfl|rfl|rfl|rfl|rfl|rfl
 all_goals cases ho
 ·have hc:QHi ob ab rb om oa oc O an aa ac E rn ra rc R wx:=hC0.keep hS;have x0:=hc.o.cell 0;have x1:=hc.o.cell 1;have xl:=hc.o.lt;go_simp;exact hK' _ _ ⟨hI.st Qfd 0 59 hsz Hf Ha rfl,hS⟩
 ·have f0:c.tmps.getD 59 undef=.agg #[.string om,.slice oa O.length oc]:=hI.yf 0 59 23 Hf Ha;have e0:=gE f0;have hc:QHi ob ab rb om oa oc O an aa ac E rn ra rc R wx:=hC0.keep hS;go_simp;refine(Qag om (.slice oa O.length oc) O wx hc.eo hom hzo iu hc.lay).mono ?_;rintro e w2 ⟨rfl,Hc⟩;exact hK' _ _ ⟨hI.step Qfd 1 60 rfl (by rw[hsz];decide) _ _ Hf Ha trivial (fun _ _ h=>QTo.stable h Hc) rfl,hS.trans (Hc.mono hS.size)⟩
 ·have hc:QHi ob ab rb om oa oc O an aa ac E rn ra rc R wx:=hC0.keep hS;have x0:=hc.o.cell 0;have x1:=hc.o.cell 1;have xl:=hc.o.lt;go_simp;exact hK' _ _ ⟨hI.st Qfd 2 61 hsz Hf Ha rfl,hS⟩
 ·have f2:c.tmps.getD 61 undef=.agg #[.string om,.slice oa O.length oc]:=hI.yf 2 61 23 Hf Ha;have e2:=gE f2;have hc:QHi ob ab rb om oa oc O an aa ac E rn ra rc R wx:=hC0.keep hS;go_simp;refine(Qcg om (.slice oa O.length oc) O wx hc.eo hom hzo).mono ?_;rintro e w2 ⟨rfl,Hc⟩;exact hK' _ _ ⟨hI.step Qfd 3 62 rfl (by rw[hsz];decide) _ _ Hf Ha trivial (fun _ _ h=>QTo.stable h Hc) rfl,hS.trans (Hc.mono hS.size)⟩
 ·have f1:c.tmps.getD 60 undef=.int .i64 (Qva om O):=hI.yf 1 60 23 Hf Ha;have e1:=gE f1;have f3:c.tmps.getD 62 undef=.int .i64 (Qva om O):=hI.yf 3 62 23 Hf Ha;have e3:=gE f3;have hc:QHi ob ab rb om oa oc O an aa ac E rn ra rc R wx:=hC0.keep hS;have Hl:((Qva om O) != (Qva om O))=false:=by simp
  go_simp;exact hK' _ _ ⟨hI.st Qfd 4 63 hsz Hf Ha rfl,hS⟩
 ·have f4:c.tmps.getD 63 undef=.bool false:=hI.yf 4 63 23 Hf Ha;have e4:=gE f4;go_simp;exact hK' _ _ ⟨hI.st Qfd 5 64 hsz Hf Ha rfl,hS⟩
 ·have f5:c.tmps.getD 64 undef=.bool false:=hI.yf 5 64 23 Hf Ha;have e5:=gE f5;have hc:QHi ob ab rb om oa oc O an aa ac E rn ra rc R wx:=hC0.keep hS;have x0:=hc.o.cell 0;have x1:=hc.o.cell 1;have xl:=hc.o.lt;have g5:c.tmps[64]? = some (.bool false):=Q0a f5;go_simp
  try rw[if_pos (by rw[ig];simp only[Option.bind_some,g5])]
  exact hK' _ _ ⟨hI.st Qfd 6 65 hsz Hf Ha rfl,hS⟩
 ·have f5:c.tmps.getD 64 undef=.bool false:=hI.yf 5 64 23 Hf Ha;have e5:=gE f5;have hc:QHi ob ab rb om oa oc O an aa ac E rn ra rc R wx:=hC0.keep hS;have x0:=hc.a.cell 0;have x1:=hc.a.cell 1;have xl:=hc.a.lt;have g5:c.tmps[64]? = some (.bool false):=Q0a f5;go_simp
  try rw[if_pos (by rw[ig];simp only[Option.bind_some,g5])]
  exact hK' _ _ ⟨hI.st Qfd 7 66 hsz Hf Ha rfl,hS⟩
 ·have f5:c.tmps.getD 64 undef=.bool false:=hI.yf 5 64 23 Hf Ha;have e5:=gE f5;have f6:c.tmps.getD 65 undef=.agg #[.string om,.slice oa O.length oc]:=hI.yf 6 65 23 Hf Ha;have e6:=gE f6;have f7:c.tmps.getD 66 undef=.agg #[.string an,.slice aa E.length ac]:=hI.yf 7 66 23 Hf Ha;have e7:=gE f7;have hc:QHi ob ab rb om oa oc O an aa ac E rn ra rc R wx:=hC0.keep hS;have g5:c.tmps[64]? = some (.bool false):=Q0a f5;go_simp
  try rw[if_pos (by rw[ig];simp only[Option.bind_some,g5])]
  refine(Qan om an (.slice oa O.length oc) (.slice aa E.length ac) O E wx hc.eo hc.ea).mono ?_;rintro e w2 ⟨rfl,Hc⟩;exact hK' _ _ ⟨hI.step Qfd 8 67 rfl (by rw[hsz];decide) _ _ Hf Ha trivial (fun _ _ h=>QTo.stable h Hc) rfl,hS.trans (Hc.mono hS.size)⟩
 ·have f5:c.tmps.getD 64 undef=.bool false:=hI.yf 5 64 23 Hf Ha;have e5:=gE f5;have hc:QHi ob ab rb om oa oc O an aa ac E rn ra rc R wx:=hC0.keep hS;have x0:=hc.o.cell 0;have x1:=hc.o.cell 1;have xl:=hc.o.lt;have g5:c.tmps[64]? = some (.bool false):=Q0a f5;go_simp
  try rw[if_pos (by rw[ig];simp only[Option.bind_some,g5])]
  exact hK' _ _ ⟨hI.st Qfd 9 68 hsz Hf Ha rfl,hS⟩
 ·have f5:c.tmps.getD 64 undef=.bool false:=hI.yf 5 64 23 Hf Ha;have e5:=gE f5;have hc:QHi ob ab rb om oa oc O an aa ac E rn ra rc R wx:=hC0.keep hS;have x0:=hc.a.cell 0;have x1:=hc.a.cell 1;have xl:=hc.a.lt;have g5:c.tmps[64]? = some (.bool false):=Q0a f5;go_simp
  try rw[if_pos (by rw[ig];simp only[Option.bind_some,g5])]
  exact hK' _ _ ⟨hI.st Qfd 10 69 hsz Hf Ha rfl,hS⟩
 ·have f5:c.tmps.getD 64 undef=.bool false:=hI.yf 5 64 23 Hf Ha;have e5:=gE f5;have f9:c.tmps.getD 68 undef=.agg #[.string om,.slice oa O.length oc]:=hI.yf 9 68 23 Hf Ha;have e9:=gE f9;have f10:c.tmps.getD 69 undef=.agg #[.string an,.slice aa E.length ac]:=hI.yf 10 69 23 Hf Ha;have e10:=gE f10;have hc:QHi ob ab rb om oa oc O an aa ac E rn ra rc R wx:=hC0.keep hS;have g5:c.tmps[64]? = some (.bool false):=Q0a f5;go_simp
  try rw[if_pos (by rw[ig];simp only[Option.bind_some,g5])]
  refine(Qdn om an (.slice oa O.length oc) (.slice aa E.length ac) O E wx hc.eo hc.ea).mono ?_;rintro e w2 ⟨rfl,Hc⟩;exact hK' _ _ ⟨hI.step Qfd 11 70 rfl (by rw[hsz];decide) _ _ Hf Ha trivial (fun _ _ h=>QTo.stable h Hc) rfl,hS.trans (Hc.mono hS.size)⟩
 ·have f5:c.tmps.getD 64 undef=.bool false:=hI.yf 5 64 23 Hf Ha;have e5:=gE f5;have f8:c.tmps.getD 67 undef=.bool (decide (om=an∧O=E)):=hI.yf 8 67 23 Hf Ha;have e8:=gE f8;have f11:c.tmps.getD 70 undef=.bool (decide (om=an∧O=E)):=hI.yf 11 70 23 Hf Ha;have e11:=gE f11;have hc:QHi ob ab rb om oa oc O an aa ac E rn ra rc R wx:=hC0.keep hS;have Hl:((decide (om=an∧O=E)) != (decide (om=an∧O=E)))=false:=by simp
  have g5:c.tmps[64]? = some (.bool false):=Q0a f5;go_simp
  try rw[if_pos (by rw[ig];simp only[Option.bind_some,g5])]
  exact hK' _ _ ⟨hI.st Qfd 12 71 hsz Hf Ha rfl,hS⟩
 ·have f5:c.tmps.getD 64 undef=.bool false:=hI.yf 5 64 23 Hf Ha;have e5:=gE f5;have f12:c.tmps.getD 71 undef=.bool false:=hI.yf 12 71 23 Hf Ha;have e12:=gE f12;go_simp;exact hK' _ _ ⟨hI.st Qfd 13 72 hsz Hf Ha rfl,hS⟩
 ·have f13:c.tmps.getD 72 undef=.bool false:=hI.yf 13 72 23 Hf Ha;have e13:=gE f13;go_simp;exact hK' _ _ ⟨hI.st Qfd 14 73 hsz Hf Ha rfl,hS⟩
 ·have f14:c.tmps.getD 73 undef=.bool false:=hI.yf 14 73 23 Hf Ha;have e14:=gE f14;have hc:QHi ob ab rb om oa oc O an aa ac E rn ra rc R wx:=hC0.keep hS;have x0:=hc.r.cell 0;have x1:=hc.r.cell 1;have xl:=hc.r.lt;have g14:c.tmps[73]? = some (.bool false):=Q0a f14;go_simp
  try rw[if_pos (by rw[jp];simp only[Option.bind_some,g14])]
  exact hK' _ _ ⟨hI.st Qfd 15 74 hsz Hf Ha rfl,hS⟩
 ·have f14:c.tmps.getD 73 undef=.bool false:=hI.yf 14 73 23 Hf Ha;have e14:=gE f14;have hc:QHi ob ab rb om oa oc O an aa ac E rn ra rc R wx:=hC0.keep hS;have x0:=hc.o.cell 0;have x1:=hc.o.cell 1;have xl:=hc.o.lt;have g14:c.tmps[73]? = some (.bool false):=Q0a f14;go_simp
  try rw[if_pos (by rw[jp];simp only[Option.bind_some,g14])]
  exact hK' _ _ ⟨hI.st Qfd 16 75 hsz Hf Ha rfl,hS⟩
 ·have f14:c.tmps.getD 73 undef=.bool false:=hI.yf 14 73 23 Hf Ha;have e14:=gE f14;have f15:c.tmps.getD 74 undef=.agg #[.string rn,.slice ra R.length rc]:=hI.yf 15 74 23 Hf Ha;have e15:=gE f15;have f16:c.tmps.getD 75 undef=.agg #[.string om,.slice oa O.length oc]:=hI.yf 16 75 23 Hf Ha;have e16:=gE f16;have hc:QHi ob ab rb om oa oc O an aa ac E rn ra rc R wx:=hC0.keep hS;have g14:c.tmps[73]? = some (.bool false):=Q0a f14;go_simp
  try rw[if_pos (by rw[jp];simp only[Option.bind_some,g14])]
  refine(Qan rn om (.slice ra R.length rc) (.slice oa O.length oc) R O wx hc.er hc.eo).mono ?_;rintro e w2 ⟨rfl,Hc⟩;exact hK' _ _ ⟨hI.step Qfd 17 76 rfl (by rw[hsz];decide) _ _ Hf Ha trivial (fun _ _ h=>QTo.stable h Hc) rfl,hS.trans (Hc.mono hS.size)⟩
 ·have f14:c.tmps.getD 73 undef=.bool false:=hI.yf 14 73 23 Hf Ha;have e14:=gE f14;have hc:QHi ob ab rb om oa oc O an aa ac E rn ra rc R wx:=hC0.keep hS;have x0:=hc.r.cell 0;have x1:=hc.r.cell 1;have xl:=hc.r.lt;have g14:c.tmps[73]? = some (.bool false):=Q0a f14;go_simp
  try rw[if_pos (by rw[jp];simp only[Option.bind_some,g14])]
  exact hK' _ _ ⟨hI.st Qfd 18 77 hsz Hf Ha rfl,hS⟩
 ·have f14:c.tmps.getD 73 undef=.bool false:=hI.yf 14 73 23 Hf Ha;have e14:=gE f14;have hc:QHi ob ab rb om oa oc O an aa ac E rn ra rc R wx:=hC0.keep hS;have x0:=hc.o.cell 0;have x1:=hc.o.cell 1;have xl:=hc.o.lt;have g14:c.tmps[73]? = some (.bool false):=Q0a f14;go_simp
  try rw[if_pos (by rw[jp];simp only[Option.bind_some,g14])]
  exact hK' _ _ ⟨hI.st Qfd 19 78 hsz Hf Ha rfl,hS⟩
 ·have f14:c.tmps.getD 73 undef=.bool false:=hI.yf 14 73 23 Hf Ha;have e14:=gE f14;have f18:c.tmps.getD 77 undef=.agg #[.string rn,.slice ra R.length rc]:=hI.yf 18 77 23 Hf Ha;have e18:=gE f18;have f19:c.tmps.getD 78 undef=.agg #[.string om,.slice oa O.length oc]:=hI.yf 19 78 23 Hf Ha;have e19:=gE f19;have hc:QHi ob ab rb om oa oc O an aa ac E rn ra rc R wx:=hC0.keep hS;have g14:c.tmps[73]? = some (.bool false):=Q0a f14;go_simp
  try rw[if_pos (by rw[jp];simp only[Option.bind_some,g14])]
  refine(Qdn rn om (.slice ra R.length rc) (.slice oa O.length oc) R O wx hc.er hc.eo).mono ?_;rintro e w2 ⟨rfl,Hc⟩;exact hK' _ _ ⟨hI.step Qfd 20 79 rfl (by rw[hsz];decide) _ _ Hf Ha trivial (fun _ _ h=>QTo.stable h Hc) rfl,hS.trans (Hc.mono hS.size)⟩
 ·have f14:c.tmps.getD 73 undef=.bool false:=hI.yf 14 73 23 Hf Ha;have e14:=gE f14;have f17:c.tmps.getD 76 undef=.bool (decide (rn=om∧R=O)):=hI.yf 17 76 23 Hf Ha;have e17:=gE f17;have f20:c.tmps.getD 79 undef=.bool (decide (rn=om∧R=O)):=hI.yf 20 79 23 Hf Ha;have e20:=gE f20;have hc:QHi ob ab rb om oa oc O an aa ac E rn ra rc R wx:=hC0.keep hS;have Hl:((decide (rn=om∧R=O)) != (decide (rn=om∧R=O)))=false:=by simp
  have g14:c.tmps[73]? = some (.bool false):=Q0a f14;go_simp
  try rw[if_pos (by rw[jp];simp only[Option.bind_some,g14])]
  exact hK' _ _ ⟨hI.st Qfd 21 80 hsz Hf Ha rfl,hS⟩
 have f14:c.tmps.getD 73 undef=.bool false:=hI.yf 14 73 23 Hf Ha;have e14:=gE f14;have f21:c.tmps.getD 80 undef=.bool false:=hI.yf 21 80 23 Hf Ha;have e21:=gE f21;go_simp;exact hK' _ _ ⟨hI.st Qfd 22 81 hsz Hf Ha rfl,hS⟩
theorem QRp{p:ByteArray}{r:List UInt8}(hr:p.data.toList=47::r):(Qbd p).size≤p.size:=by
 obtain⟨e,_⟩:=QQe (l:=p.data.toList) (by rw[hr];exact List.mem_cons_self);have h1:=congrArg List.length e;simp only[List.length_append,List.length_cons]at h1;have h2:p.size=p.data.toList.length:=by simp
 have h3:(Qbd p).size=(Qoe p.data.toList).length:=by unfold Qbd;simp[ByteArray.size]
 omega
theorem Qvq(R:Nat→Prop)(v:Value)(T:List Qba)(x:Qga)(w:World)(hT:Qoa R w v T)(gd:Qia T=0)(hv:Qwb x=true)(Gt:x.path.size≤9223372036854775807)(ko:x.name.size≤9223372036854775807)(JL:x.value.size≤9223372036854775807) :
 Calls prog 59 #[.agg #[v],.agg #[.int .i64 x.kind,.string x.path,.string x.name,.string x.value]] w fun e w'=>∃v',e=.returned (.tuple #[.agg #[v'],.int .i64 (Q5a T x).2])∧((v'=v∧(Q5a T x).1=T)∨Qda w' w.heap.size v' (Q5a T x).1)∧Below w.heap.size w w':=by
 obtain⟨hp,_,hk⟩:=QJf hv;obtain⟨k,p,n,u⟩:=x;simp only at hp hk Gt ko JL;obtain⟨r,hr⟩:=QFf hp;replace hk:k=1∨k=2∨k=3:=by rcases hk with⟨h,_⟩|⟨h,_⟩|⟨h,_⟩ <;> omega
 obtain⟨ta,tcap,rfl,_,_⟩:=hT.shape;have HS:=hid (fun wx=>Qro p wx ⟨r,hr⟩ Gt);have m9:=hid (fun wx hx=>QAq R (.slice ta T.length tcap) T p wx hx);have HT:=hid hT;obtain⟨W0,gJ⟩:∃W0,W0=((w.alloc (.cells #[.slice ta T.length tcap] 27)).alloc (.cells #[.int .i64 k,.string p,.string n,.string u] 39)).alloc (.cells #[.slice none 0 0] 27):=⟨_,rfl⟩;have He:Below w.heap.size w W0:=by rw[gJ];exact((Bq).alloc (by simp) _).alloc (by simp;omega) _
 have Gb:Holds W0 w.heap.size #[.slice ta T.length tcap] 27:=by rw[gJ];exact((Holds.new w #[.slice ta T.length tcap] 27).alloc _).alloc _
 have kR:Holds W0 (w.heap.size+1) #[.int .i64 k,.string p,.string n,.string u] 39:=by rw[gJ];exact(Holds.newAt (w:=w.alloc (.cells #[.slice ta T.length tcap] 27)) (B:=w.heap.size+1) (by simp) #[.int .i64 k,.string p,.string n,.string u] 39).alloc _
 have gX:Holds W0 (w.heap.size+1+1) #[.slice none 0 0] 27:=by rw[gJ];exact Holds.newAt (w:=(w.alloc (.cells #[.slice ta T.length tcap] 27)).alloc (.cells #[.int .i64 k,.string p,.string n,.string u] 39)) (B:=w.heap.size+1+1) (by simp) #[.slice none 0 0] 27
 have gM:=hid gJ;have MB:=hid Gb;have jh:=hid kR;have Kr:=hid gX;have gK:=hid He;have Mw:=hid (hT.new He);clear gJ Gb kR gX He;rcases hk with rfl|rfl|rfl
 ·cases hf:(QYa T p).2 with
  | true=>
   have HC:=hid (QIl (T:=T) (p:=p) (n:=n) (u:=u) hf);rw[show QYa T p=((QYa T p).1,true)from by rw[←hf]]at m9;generalize(QYa T p).1=fi at *
   clear hf hT hp hv HS gd;go_enter func59,ntmps59;go_wp2_with fail;rw[←gM.o];refine Calls.mono (by exact m9.o W0 Mw.o) ?_;rintro e w1 ⟨rfl,Hb⟩;have Hr:=MB.o.fr Hb;have Hs:=jh.o.fr Hb;have Hm:=Kr.o.fr Hb;have Ky:=hid Hr;have kO:=hid Hs;have GT:=hid Hm;have Hq:=hid (gK.o.trans (Hb.mono gK.o.size));have xa:=Hr.cell 0;have xl:=Hr.lt;have oa:=Hs.cell 0;have ob:=Hs.cell 1;have oc:=Hs.cell 2;have od:=Hs.cell 3;have ol:=Hs.lt;have za:=Hm.cell 0;have zf:=Hm.free 0;have zl:=Hm.lt;clear Hr Hs Hm Hb;have Mb:=hid (HT.o.new Hq.o);go_wp2_with fail;have z9:=(GT.o.set 0 (.slice ta T.length tcap)).cell 0;exact bodyPost_ret (v:=.tuple #[.agg #[.slice ta T.length tcap],.int .i64 0]) (by simp[results,Tryz.results59,go_sem,z9]) rfl ⟨.slice ta T.length tcap,by rw[HC.o] <;> rfl,.inl ⟨rfl,by rw[HC.o]⟩,Hq.o.setCell (by simp;omega) _⟩
  | false=>
   have HC:=hid (Q8o (T:=T) (p:=p) (n:=n) (u:=u) hf);rw[show QYa T p=((QYa T p).1,false)from by rw[←hf]]at m9;have mB:(Qbd p).size≤9223372036854775807:=by have:=QRp hr;omega
   have KL:=hid (fun wx hx=>Qgn R (.slice ta T.length tcap) T (Qzb p) (Qbd p) wx hx mB);unfold Qgc at KL;generalize(QYa T p).1=fi at *
   generalize Qzb p=pp at *
   generalize Qbd p=pn at *
   generalize QQc T pp pn=D at *
   obtain⟨D1,D2⟩:=D;clear hf hT hp hv mB gd;go_enter func59,ntmps59;go_wp2_with fail;rw[←gM.o];refine Calls.mono (by exact m9.o W0 Mw.o) ?_;rintro e w1 ⟨rfl,Hb⟩;have Hr:=MB.o.fr Hb;have Hs:=jh.o.fr Hb;have Hm:=Kr.o.fr Hb;have Ky:=hid Hr;have kO:=hid Hs;have GT:=hid Hm;have Hq:=hid (gK.o.trans (Hb.mono gK.o.size));have xa:=Hr.cell 0;have xl:=Hr.lt;have oa:=Hs.cell 0;have ob:=Hs.cell 1;have oc:=Hs.cell 2;have od:=Hs.cell 3;have ol:=Hs.lt;have za:=Hm.cell 0;have zf:=Hm.free 0;have zl:=Hm.lt;clear Hr Hs Hm Hb;have Mb:=hid (HT.o.new Hq.o);go_wp2_with fail;refine Calls.mono (by exact HS.o w1) ?_;rintro e w2 ⟨rfl,Hc⟩;clear xa xl oa ob oc od ol za zf zl;have gw:=Ky.o.fr Hc;have gv:=kO.o.fr Hc;have Hx:=GT.o.fr Hc;have j7:=hid gw;have KK:=hid gv;have mu:=hid Hx;have gF:=hid (Hq.o.trans (Hc.mono Hq.o.size));have xa:=gw.cell 0;have xl:=gw.lt;have oa:=gv.cell 0;have ob:=gv.cell 1;have oc:=gv.cell 2;have od:=gv.cell 3;have ol:=gv.lt;have za:=Hx.cell 0;have zf:=Hx.free 0;have zl:=Hx.lt;clear gw gv Hx Hc;have bE:=hid (HT.o.new gF.o);go_wp2_with fail;refine Calls.mono (by exact KL.o w2 bE.o) ?_;rintro e w3 ⟨v3,rfl,ht,Hg⟩;clear xa xl oa ob oc od ol za zf zl;have Mr:=ht;clear ht;obtain⟨a2,c2,rfl,_,_⟩:=Mr.in.shape;have fw:=hid Mr;clear Mr;have GA:=j7.o.fr Hg;have GX:=KK.o.fr Hg;have gf:=mu.o.fr Hg;have cD:=hid GA;have bB:=hid GX;have KT:=hid gf;have kC:=hid (gF.o.trans (Hg.mono gF.o.size));have xa:=GA.cell 0;have xl:=GA.lt;have oa:=GX.cell 0;have ob:=GX.cell 1;have oc:=GX.cell 2;have od:=GX.cell 3
   have ol:=GX.lt;have za:=gf.cell 0;have zf:=gf.free 0;have zl:=gf.lt;clear GA GX gf Hg;have nF:=hid (HT.o.new kC.o);go_wp2_with fail;have z9:=(KT.o.set 0 (.slice a2 D1.length c2)).cell 0;exact bodyPost_ret (v:=.tuple #[.agg #[.slice a2 D1.length c2],.int .i64 D2]) (by simp[results,Tryz.results59,go_sem,z9]) rfl ⟨.slice a2 D1.length c2,by rw[HC.o] <;> rfl,.inr (by rw[HC.o];exact(fw.o.base gF.o.size).set KT.o (by decide) (by decide) 0 _),kC.o.setCell (by simp;omega) _⟩
 ·have HC:=hid (Qap (p:=p) (n:=n) (u:=u) gd);have KL:=hid (fun wx hx=>Qhn R (.slice ta T.length tcap) T p n u wx hx (by omega) (by omega));unfold Qgc at KL;generalize Qid T p n u=D at *
  obtain⟨D1,D2⟩:=D;clear hT hp hv gd HS m9;go_enter func59,ntmps59;go_wp2_with fail;rw[←gM.o];refine Calls.mono (by exact KL.o W0 Mw.o) ?_;rintro e w1 ⟨v3,rfl,ht,Hb⟩;have bY:=ht;clear ht;obtain⟨a2,c2,rfl,_,_⟩:=bY.in.shape;have sP:=hid bY;clear bY;have Hr:=MB.o.fr Hb;have Hs:=jh.o.fr Hb;have Hm:=Kr.o.fr Hb;have Ky:=hid Hr;have kO:=hid Hs;have GT:=hid Hm;have Hq:=hid (gK.o.trans (Hb.mono gK.o.size));have xa:=Hr.cell 0;have xl:=Hr.lt;have oa:=Hs.cell 0;have ob:=Hs.cell 1;have oc:=Hs.cell 2;have od:=Hs.cell 3;have ol:=Hs.lt;have za:=Hm.cell 0;have zf:=Hm.free 0;have zl:=Hm.lt;clear Hr Hs Hm Hb;have Mb:=hid (HT.o.new Hq.o);go_wp2_with fail;have z9:=(GT.o.set 0 (.slice a2 D1.length c2)).cell 0;exact bodyPost_ret (v:=.tuple #[.agg #[.slice a2 D1.length c2],.int .i64 D2]) (by simp[results,Tryz.results59,go_sem,z9]) rfl ⟨.slice a2 D1.length c2,by rw[HC.o] <;> rfl,.inr (by rw[HC.o];exact(sP.o.base gK.o.size).set GT.o (by decide) (by decide) 0 _),Hq.o.setCell (by simp;omega) _⟩
 rcases QOi (s:=p) gd with⟨hf,_⟩|⟨k,hk,hf,Gr⟩
 ·have HC:=hid (QBn (T:=T) (p:=p) (n:=n) (u:=u) (by rw[hf]));rw[hf]at m9;clear hf hT hp hv gd HS;go_enter func59,ntmps59;go_wp2_with fail;rw[←gM.o];refine Calls.mono (by exact m9.o W0 Mw.o) ?_;rintro e w1 ⟨rfl,Hb⟩;have Hr:=MB.o.fr Hb;have Hs:=jh.o.fr Hb;have Hm:=Kr.o.fr Hb;have Ky:=hid Hr;have kO:=hid Hs;have GT:=hid Hm;have Hq:=hid (gK.o.trans (Hb.mono gK.o.size));have xa:=Hr.cell 0;have xl:=Hr.lt;have oa:=Hs.cell 0;have ob:=Hs.cell 1;have oc:=Hs.cell 2;have od:=Hs.cell 3;have ol:=Hs.lt;have za:=Hm.cell 0;have zf:=Hm.free 0;have zl:=Hm.lt;clear Hr Hs Hm Hb;have Mb:=hid (HT.o.new Hq.o);go_wp2_with fail;have z9:=(GT.o.set 0 (.slice none 0 0)).cell 0;exact bodyPost_ret (v:=.tuple #[.agg #[.slice none 0 0],.int .i64 4]) (by simp[results,Tryz.results59,go_sem,z9]) rfl ⟨.slice none 0 0,by rw[HC.o] <;> rfl,.inr (by rw[HC.o];exact Qda.nil _ _),Hq.o.setCell (by simp;omega) _⟩
 have pb:(k:Int)<(T.length:Int):=by omega
 have iR:=hid (Q9o (n:=n) (u:=u) hk hf Gr);have KL:=hid (fun wx hx=>Qnm R (.slice ta T.length tcap) T p n wx hx);unfold Qgc at KL;rw[hf]at m9;have bS:=fun(wx:World) (pv:Value) (hx:QAa R wx pv (T[k]'hk).props)=>QBq R (T[k]'hk).parent (T[k]'hk).name pv (T[k]'hk).props n wx hx;have KG:=QJs (x:=n) (Qqd gd k hk);obtain⟨o1,o2⟩:∃o1,ofT (T[k]'hk).props n=(o1,Qtc (T[k]'hk).props n):=⟨_,by rw[←KG]⟩;rw[o2]at bS;have dQ:=hid bS;generalize Q9a T p n=D at *
 obtain⟨D1,D2⟩:=D;clear hf Gr hT hp hv gd HS bS KG o2;cases hh:Qtc (T[k]'hk).props n with
 | false=>
  rw[hh]at dQ;have HC:=hid (iR.o.trans (if_pos hh));clear hh iR KL;go_enter func59,ntmps59;go_wp2_with fail;rw[←gM.o];refine Calls.mono (by exact m9.o W0 Mw.o) ?_;rintro e w1 ⟨rfl,Hb⟩;have Hr:=MB.o.fr Hb;have Hs:=jh.o.fr Hb;have Hm:=Kr.o.fr Hb;have Ky:=hid Hr;have kO:=hid Hs;have GT:=hid Hm;have Hq:=hid (gK.o.trans (Hb.mono gK.o.size));have xa:=Hr.cell 0;have xl:=Hr.lt;have oa:=Hs.cell 0;have ob:=Hs.cell 1;have oc:=Hs.cell 2;have od:=Hs.cell 3;have ol:=Hs.lt;have za:=Hm.cell 0;have zf:=Hm.free 0;have zl:=Hm.lt;clear Hr Hs Hm Hb;have Mb:=hid (HT.o.new Hq.o);obtain⟨g,o,pa,pc,dj,hg,c0,c1,c2,aY,p1,p2,b0,b1,b2⟩:=Mb.o.at k hk;have M0:=hid aY;subst dj;clear aY;go_wp2_with fail
  go_region_with (go_at_call 14;refine Calls.mono (by exact dQ.o _ _ (M0.o.new ((Below.refl _ _).drew))) ?_;rintro e w2 ⟨rfl,jn⟩)
  all_goals
   have Hc:Below w1.heap.size w1 w2:=((Below.refl w1.heap.size w1).drew).trans jn;clear xa xl oa ob oc od ol za zf zl;clear c0 c1 c2 jn;have gw:=Ky.o.fr Hc;have gv:=kO.o.fr Hc;have Hx:=GT.o.fr Hc;have j7:=hid gw;have KK:=hid gv;have mu:=hid Hx;have gF:=hid (Hq.o.trans (Hc.mono Hq.o.size));have xa:=gw.cell 0;have xl:=gw.lt;have oa:=gv.cell 0;have ob:=gv.cell 1;have oc:=gv.cell 2;have od:=gv.cell 3;have ol:=gv.lt;have za:=Hx.cell 0;have zf:=Hx.free 0;have zl:=Hx.lt;clear gw gv Hx Hc;have bE:=hid (HT.o.new gF.o);go_wp2_with fail;have z9:=(mu.o.set 0 (.slice (some ⟨g,o,none⟩) T.length tcap)).cell 0;exact bodyPost_ret (v:=.tuple #[.agg #[.slice (some ⟨g,o,none⟩) T.length tcap],.int .i64 0]) (by simp[results,Tryz.results59,go_sem,z9]) rfl ⟨.slice (some ⟨g,o,none⟩) T.length tcap,by rw[HC.o] <;> rfl,.inl ⟨rfl,by rw[HC.o]⟩,gF.o.setCell (by simp;omega) _⟩
 | true=>
  rw[hh]at dQ;have HC:=hid (iR.o.trans (if_neg (by rw[hh];decide)));clear hh iR;go_enter func59,ntmps59;go_wp2_with fail;rw[←gM.o];refine Calls.mono (by exact m9.o W0 Mw.o) ?_;rintro e w1 ⟨rfl,Hb⟩;have Hr:=MB.o.fr Hb;have Hs:=jh.o.fr Hb;have Hm:=Kr.o.fr Hb;have Ky:=hid Hr;have kO:=hid Hs;have GT:=hid Hm;have Hq:=hid (gK.o.trans (Hb.mono gK.o.size));have xa:=Hr.cell 0;have xl:=Hr.lt;have oa:=Hs.cell 0;have ob:=Hs.cell 1;have oc:=Hs.cell 2;have od:=Hs.cell 3;have ol:=Hs.lt;have za:=Hm.cell 0;have zf:=Hm.free 0;have zl:=Hm.lt;clear Hr Hs Hm Hb;have Mb:=hid (HT.o.new Hq.o);obtain⟨g,o,pa,pc,dj,hg,c0,c1,c2,aY,p1,p2,b0,b1,b2⟩:=Mb.o.at k hk;have M0:=hid aY;subst dj;clear aY;go_wp2_with fail
  go_region_with (go_at_call 14;refine Calls.mono (by exact dQ.o _ _ (M0.o.new ((Below.refl _ _).drew))) ?_;rintro e w2 ⟨rfl,jn⟩)
  all_goals
   have Hc:Below w1.heap.size w1 w2:=((Below.refl w1.heap.size w1).drew).trans jn;clear xa xl oa ob oc od ol za zf zl;clear c0 c1 c2 jn;have gw:=Ky.o.fr Hc;have gv:=kO.o.fr Hc;have Hx:=GT.o.fr Hc;have j7:=hid gw;have KK:=hid gv;have mu:=hid Hx;have gF:=hid (Hq.o.trans (Hc.mono Hq.o.size));have xa:=gw.cell 0;have xl:=gw.lt;have oa:=gv.cell 0;have ob:=gv.cell 1;have oc:=gv.cell 2;have od:=gv.cell 3;have ol:=gv.lt;have za:=Hx.cell 0;have zf:=Hx.free 0;have zl:=Hx.lt;clear gw gv Hx Hc;have bE:=hid (HT.o.new gF.o);go_wp2_with fail;refine Calls.mono (by exact KL.o w2 bE.o) ?_;rintro e w3 ⟨v3,rfl,ht,Hg⟩;clear xa xl oa ob oc od ol za zf zl;have Mr:=ht;clear ht;obtain⟨a2,c2,rfl,_,_⟩:=Mr.in.shape;have fw:=hid Mr;clear Mr;have GA:=j7.o.fr Hg;have GX:=KK.o.fr Hg;have gf:=mu.o.fr Hg;have cD:=hid GA;have bB:=hid GX;have KT:=hid gf;have kC:=hid (gF.o.trans (Hg.mono gF.o.size));have xa:=GA.cell 0;have xl:=GA.lt;have oa:=GX.cell 0;have ob:=GX.cell 1;have oc:=GX.cell 2;have od:=GX.cell 3;have ol:=GX.lt;have za:=gf.cell 0;have zf:=gf.free 0;have zl:=gf.lt;clear GA GX gf Hg;have nF:=hid (HT.o.new kC.o);go_wp2_with fail;have z9:=(KT.o.set 0 (.slice a2 D1.length c2)).cell 0;exact bodyPost_ret (v:=.tuple #[.agg #[.slice a2 D1.length c2],.int .i64 D2]) (by simp[results,Tryz.results59,go_sem,z9]) rfl ⟨.slice a2 D1.length c2,by rw[HC.o] <;> rfl,.inr (by rw[HC.o];exact(fw.o.base gF.o.size).set KT.o (by decide) (by decide) 0 _),kC.o.setCell (by simp;omega) _⟩
end Go.Proofs.YtgaboghigefgbaaGreatDoor
