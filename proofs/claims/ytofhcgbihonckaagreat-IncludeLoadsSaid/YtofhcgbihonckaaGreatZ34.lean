/- The tape of bringupmake: source texts. -/
import Derived.Test.YtofhcgbihonckaaGreatZ31
import Derived.Test.YtofhcgbihonckaaGreatZ16
import Derived.Test.YtofhcgbihonckaaGreatZ12
import Derived.Test.YtofhcgbihonckaaGreatZ5
import Derived.Deep.LoopGhost
import Derived.Deep.RegionWith
import Derived.Laws.IdiomStrings
import Derived.IntWalk
set_option linter.all false
set_option maxHeartbeats 8000000
namespace Go.Proofs.YtofhcgbihonckaaGreat
open Go.RowKit
theorem QIj:∀s∈QNi,s.size≤20:=by decide
theorem QMi:∀s∈Qvp,s.size≤20:=by decide
theorem QLh(s:ByteArray)(a b:Nat)(h:b≤s.size):(s.extract a b).size=b-a:=by simp;omega
theorem QDr(v:Int)(h0:0≤v)(h1:v<256):IntKind.u8.wrap v=v:=by
 simp[IntKind.wrap,IntKind.signed,IntKind.bits];omega
theorem QGn(w:World)(v:Int)(h0:0≤v)(h1:v<256):(convert 76 9 (.slice (some ⟨w.heap.size,0,none⟩) 1 1)).run Tryz.prog (w.alloc (.cells #[.int .u8 v] 5)) = .ok (.string ⟨#[v.toNat.toUInt8]⟩) (w.alloc (.cells #[.int .u8 v] 5)):=by
 refine run_convert_bytes_back _ _ _ _ ⟨w.heap.size,0,none⟩ 1 [v.toNat.toUInt8] Tryz.underlying76 Tryz.underlying5 Tryz.underlying9 ?_
 intro j hj
 have qA:j=0:=by simpa using hj
 subst qA
 refine Q3a w _ _ _ rfl [.int .u8 v] rfl 0 _ ?_
 simp only[List.getElem_cons_zero]
 rw[Qrn v h0 (by omega)];rfl
def QWl(B b:Nat)(s:ByteArray)(w:World)(e:Ending)(w':World):Prop:=
 ∃s':ByteArray,e = .returned (.string s')∧s'.size≤s.size+64∧Q3c B w' b∧Qaa (· = b) w w'
set_option maxRecDepth 100000 in
theorem QVn(B b:Nat)(s:ByteArray)(w:World)(h:Q3c B w b)(hs:s.size≤1000000) :
 Calls Tryz.prog 12 #[.pointer (some ⟨b,0,none⟩),.string s] w (QWl B b s w):=by
 go_enter Tryz.func12,Tryz.ntmps12
 by_cases h0:s.size=0
 ·obtain rfl:=QEd s h0
  clear h0
  go_wp2_with fail
  refine(Qwm B b _ h).mono ?_
  rintro e w2 ⟨o,rfl,ho,gN,ga⟩
  have tp:=QMi o ho
  go_wp2_with fail
  go_ret
  exact⟨o,rfl,by omega,gN,ga⟩
 ·have h0:0<s.size:=by omega
  have Hn:=Qzc s h0
  have Jr:=Qub s h0
  have hz:((s.size:Int) == 0)=false:=by rw[beq_eq_false_iff_ne];omega
  go_wp2_with fail
  refine(Qge B b (s.size:Int) _ h (by omega) (by omega)).mono ?_
  rintro e w1 ⟨k,rfl,k0,k1,Kv,g9⟩
  obtain⟨k,rfl⟩:=Int.eq_ofNat_of_zero_le k0
  have hk:k<s.size:=by omega
  clear k0 k1
  go_wp2_with fail
  refine(Qge B b 5 _ Kv (by omega) (by omega)).mono ?_
  rintro e w2 ⟨q,rfl,q0,q1,gN,ga⟩
  have gc:Qaa (· = b) w w2:=g9.trans ga (fun _ _ h=>h)
  have x1:=QLh s 0 k (by omega)
  have x2:=QLh s (k+1) s.size (by omega)
  have x3:=QLh s k s.size (by omega)
  have x4:=QLh s k (k+1) (by omega)
  have ix:q=0∨q=1∨q=2∨q=3∨q=4:=by omega
  rcases ix with rfl|rfl|rfl|rfl|rfl
  ·obtain⟨c,hc,Hx,_⟩:=QKb (s.extract 0 k) (s.extract (k+1) s.size) (by omega)
   unfold QSc at hc
   clear x1 x2 x3 x4
   go_wp2_with fail
   go_quiet (fail)
   go_wp2_with fail
   go_ret
   exact⟨c,rfl,by rw[Hx];simp;omega,gN.keeps ((Qaa.refl (fun _=>False) w2).drewN _) (fun _ e=>e.elim),gc.drewN _⟩
  ·obtain⟨c,hc,Hx,_⟩:=QKb (s.extract 0 k) (s.extract k (k+1)) (by omega)
   obtain⟨d,hd,ae,_⟩:=QKb c (s.extract k s.size) (by omega)
   unfold QSc at hc hd
   clear x1 x2 x3 x4
   go_wp2_with fail
   go_quiet (fail)
   go_wp2_with fail
   go_ret
   exact⟨d,rfl,by rw[ae,Hx];simp;omega,gN.keeps ((Qaa.refl (fun _=>False) w2).drewN _) (fun _ e=>e.elim),gc.drewN _⟩
  ·have Kj:∀o:ByteArray,o.size≤20→∃c d,QSc (s.extract 0 k) o c∧QSc c (s.extract (k+1) s.size) d∧d.size≤s.size+64:=by
    intro o ho
    obtain⟨c,hc,Hx,_⟩:=QKb (s.extract 0 k) o (by omega)
    obtain⟨d,hd,ae,_⟩:=QKb c (s.extract (k+1) s.size) (by omega)
    exact⟨c,d,hc,hd,by omega⟩
   have n1:(1:Int)≤256:=by omega
   have n2:(256:Int)≤4611686018427387904:=by omega
   have Mp:(0:Int)≤(k:Int)+1:=by omega
   have jd:k+1≤s.size:=hk
   have KX:IntKind.i64.wrap ((k:Int)+1)=(k:Int)+1:=IntWalk.i64_in _ (by omega)
   have k8:((k:Int)+1).toNat=k+1:=by omega
   clear x1 x2 x3 x4
   go_wp2_with fail
   go_region_with (go_at_call 21;refine(Qge B b 256 _ (by exact gN) n1 n2).mono ?_;rintro e w3 ⟨v,rfl,v0,v1,G6,gD⟩;have lC:IntKind.u8.wrap v=v:=QDr v v0 v1;have JD:=QGn w3 v v0 v1;obtain⟨c,d,hc,hd,ae⟩:=Kj ⟨#[v.toNat.toUInt8]⟩ (Nat.le_of_ble_eq_true rfl);unfold QSc at hc hd)
   all_goals
    clear KX k8
    go_wp2_with fail
    go_ret
    exact⟨d,rfl,ae,G6.keeps ((Qaa.refl (fun _=>False) w3).alloc _) (fun _ e=>e.elim),(gc.drew.trans gD (fun _ _ h=>h)).alloc _⟩
  ·go_wp2_with fail
   go_region_with (go_at_call 18;refine(Qwm B b _ (by exact gN)).mono ?_;rintro e w3 ⟨o,rfl,ho,G6,gD⟩;have tp:=QMi o ho;obtain⟨c,hc,Hx,_⟩:=QKb (s.extract 0 k) o (by omega);obtain⟨d,hd,ae,_⟩:=QKb c (s.extract k s.size) (by omega);unfold QSc at hc hd)
   all_goals
    go_wp2_with fail
    go_ret
    exact⟨d,rfl,by rw[ae,Hx];simp;omega,G6,gc.drew.trans gD (fun _ _ h=>h)⟩
  ·go_wp2_with fail
   go_region_with (go_at_call 32;refine(QUn B b _ (by exact gN)).mono ?_;rintro e w3 ⟨o,rfl,ho,G6,gD⟩;have tp:=QIj o ho;obtain⟨c,hc,Hx,_⟩:=QKb (s.extract 0 k) o (by omega);obtain⟨d,hd,ae,_⟩:=QKb c (s.extract k s.size) (by omega);unfold QSc at hc hd)
   all_goals
    go_wp2_with fail
    go_ret
    exact⟨d,rfl,by rw[ae,Hx];simp;omega,G6,gc.drew.trans gD (fun _ _ h=>h)⟩
end Go.Proofs.YtofhcgbihonckaaGreat
