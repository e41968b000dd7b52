/- Bent: its drawn region 19 (printed by gbent.py) | Bent: its drawn region 21 (printed by gbent.py) | Bent: its drawn region 23 (printed by gbent.py) | Bent: its drawn region 28 (printed by gbent.py) | Bent: its drawn region 31 (printed by gbent.py) | Contracts of bringupgrow: Bent. | The drawn region of AddressAnswers that lists the trees (printed by gbl.py). | A drawn region's lemma at the walk: the operations by name, the frame behind it written out; and what Buses goes on in. | Contracts of bringupgrow: pieces of Buses: the two rows of cells (printed by gbus.py) | Contracts of bringupgrow: region 24 of Buses (printed by regen.py). | Contracts of bringupgrow: region 28 of Buses (printed by regen.py). | Contracts of bringupgrow: pieces of Buses: the inner loops (printed by gbus.py) | Contracts of bringupgrow: region 36 of Buses (printed by regen36.py). -/
import Derived.Test.YthkoaakicdhnpaaGreatZ16
import Derived.Test.YthkoaakicdhnpaaGreatZ17
import Derived.Deep.RegionLaw
import Derived.Deep.RegionWith
import Derived.Deep.AppendLies
import Derived.Test.YthkoaakicdhnpaaGreatZ15
import Derived.StillTailTactics
import Derived.Test.YthkoaakicdhnpaaGreatZ11
import Derived.Test.YthkoaakicdhnpaaGreatZ2
import Derived.Deep.DeepCutAuto
import Derived.Deep.CutBlock
import Derived.Deep.LoopGhost

namespace Go.Proofs.YthkoaakicdhnpaaGreat
open Go.RowKit

theorem prop_small {s : ByteArray} (h : s ∈ lProperty) : PropOk ⟨s, ⟨#[]⟩⟩ := by
  have : ∀ x ∈ lProperty, x.size ≤ 9223372036854775807 := by decide
  exact ⟨this s h, by show (0 : Nat) ≤ _; omega⟩
/-- What an append of one property asks, and what holds behind the store of its result. -/
theorem bent_row {B b Z Rb N M g cap k : Nat} {T : List NodeT} {W w : World} {pa : Option Addr} {pc : Nat} (h : BentS B b Z Rb (.slice (some ⟨g, 0, none⟩) T.length cap) T W w) (hk : k < T.length) (hN : T.length ≤ N) (hM : ∀ n ∈ T, n.props.length + 1 ≤ M)
    (hc : w.cell? ⟨g, k * 3 + 2, none⟩ = some (.slice pa T[k].props.length pc)) (s v : ByteArray) (hp : PropOk ⟨s, v⟩) :
    Hid ((w.alloc (.cells #[.string s, .string v] 65)).ownsRow W.heap.size 65 2 (.slice pa T[k].props.length pc) T[k].props.length (propCells T[k].props) ∧
      ∀ (v8 : Value) (w8 : World), w8.ownsRow W.heap.size 65 2 v8 (T[k].props.length + 1) (propCells T[k].props ++ [.string s, .string v]) → (w.alloc (.cells #[.string s, .string v] 65)).grownBy w8 (Value.slice pa T[k].props.length pc).ownBlock →
        w8.cell? ⟨g, k * 3 + 2, none⟩ = some (.slice pa T[k].props.length pc) ∧ w8.frozen? ⟨g, k * 3 + 2, none⟩ = false ∧ g < w8.heap.size ∧ BentE B b Z Rb N M W (w8.setCell ⟨g, k * 3 + 2, none⟩ v8)) := by
  obtain ⟨pa', pc', c0, c1, hgl, hpr, hnext⟩ := h.prop hk hN hM
  rw [hc] at c0
  cases c0
  have hb : Below w.heap.size w (w.alloc (.cells #[.string s, .string v] 65)) := (Below.refl _ _).alloc (Nat.le_refl _) _
  refine Lib.hid ⟨(hpr.new hb).1, fun v8 w8 hown hg => ?_⟩
  refine hnext w8 v8 (T[k].props ++ [⟨s, v⟩]) ⟨?_, fun q hq => ?_⟩ ?_ ?_
  · rw [propCells_app, List.length_append]; exact hown
  · rcases List.mem_append.1 hq with hq | hq
    · exact hpr.2 q hq
    · simp at hq; subst hq; exact hp
  · have := hM T[k] (List.getElem_mem hk); simpa using this
  · exact (Keeps.of_fresh hb _).trans (Keeps.of_grown hg (fun _ e => e)) (fun _ _ e => e)
set_option maxHeartbeats 4000000 in
set_option maxRecDepth 100000 in
theorem bent_r19 {Q : Exit → Act → World → Prop} (B b Z Rb N M g cap k : Nat) (T : List NodeT) (W w : World) (hk : k < T.length) (hN : T.length + 1 ≤ N) (_ : N ≤ 1000) (hM : ∀ n ∈ T, n.props.length + 1 ≤ M) (hM2 : M ≤ 1000) {u1 u2 u3 u4 u6 u7 u10 u11 u12 u13 u14 u15 u16 u17 u18 u19 u20 u21 u22 u23 u24 u25 u26 u27 u28 u29 u30 u31 u32 u33 u34 u35 u36 u37 u38 u39 u40 u41 u42 u43 u44 u45 u46 u47 u48 u49 u50 u51 u52 u53 u54 u55 u56 u57 u58 u59 u60 u61 u62 u63 u64 u65 u66 u67 u68 u69 u70 u71 u72 u73 u74 u75 u76 u77 u78 u79 u80 u81 u82 u83 u84 u85 u86 u87 u88 u89 u90 u91 u92 u93 u94 u95 u96 u97 u98 u99 u100 u101 u102 u103 u104 u105 u106 u107 u108 u109 u110 u111 u112 u113 u114 u115 u116 u117 u118 u119 u120 u121 u122 u123 u124 u125 u126 u127 u128 u129 u130 u131 u132 u133 u134 u135 u136 u137 u138 u139 u140 u141 u142 u143 u144 u145 u146 u147 u148 u149 u150 u151 u152 u153 u154 u155 u156 u157 u158 u159 u160 u161 u162 u163 u164 u165 u166 u167 u168 u169 u170 u171 u172 : Value}
    (hB : Hid (BentS B b Z Rb (.slice (some ⟨g, 0, none⟩) T.length cap) T W w)) (hQ : Hid (∀ (x74 x75 x76 x77 x78 x79 x80 x81 x82 x83 x84 x85 : Value) (wx : World), BentE B b Z Rb N M W wx → Q .normal ⟨#[.pointer (some ⟨b, 0, none⟩), u1, u2, u3, u4, .pointer (some ⟨Z, 0, none⟩), u6, u7, .int .i64 k, .pointer (some ⟨g, k * 3, none⟩), u10, u11, u12, u13, u14, u15, u16, u17, u18, u19, u20, u21, u22, u23, u24, u25, u26, u27, u28, u29, u30, u31, u32, u33, u34, u35, u36, u37, u38, u39, u40, u41, u42, u43, u44, u45, u46, u47, u48, u49, u50, u51, u52, u53, u54, u55, u56, u57, u58, u59, u60, u61, u62, u63, u64, u65, u66, u67, u68, u69, u70, u71, u72, u73, x74, x75, x76, x77, x78, x79, x80, x81, x82, x83, x84, x85, u86, u87, u88, u89, u90, u91, u92, u93, u94, u95, u96, u97, u98, u99, u100, u101, u102, u103, u104, u105, u106, u107, u108, u109, u110, u111, u112, u113, u114, u115, u116, u117, u118, u119, u120, u121, u122, u123, u124, u125, u126, u127, u128, u129, u130, u131, u132, u133, u134, u135, u136, u137, u138, u139, u140, u141, u142, u143, u144, u145, u146, u147, u148, u149, u150, u151, u152, u153, u154, u155, u156, u157, u158, u159, u160, u161, u162, u163, u164, u165, u166, u167, u168, u169, u170, u171, u172], []⟩ wx)) :
    (bentR 19).wp Tryz.prog Q ⟨#[.pointer (some ⟨b, 0, none⟩), u1, u2, u3, u4, .pointer (some ⟨Z, 0, none⟩), u6, u7, .int .i64 k, .pointer (some ⟨g, k * 3, none⟩), u10, u11, u12, u13, u14, u15, u16, u17, u18, u19, u20, u21, u22, u23, u24, u25, u26, u27, u28, u29, u30, u31, u32, u33, u34, u35, u36, u37, u38, u39, u40, u41, u42, u43, u44, u45, u46, u47, u48, u49, u50, u51, u52, u53, u54, u55, u56, u57, u58, u59, u60, u61, u62, u63, u64, u65, u66, u67, u68, u69, u70, u71, u72, u73, u74, u75, u76, u77, u78, u79, u80, u81, u82, u83, u84, u85, u86, u87, u88, u89, u90, u91, u92, u93, u94, u95, u96, u97, u98, u99, u100, u101, u102, u103, u104, u105, u106, u107, u108, u109, u110, u111, u112, u113, u114, u115, u116, u117, u118, u119, u120, u121, u122, u123, u124, u125, u126, u127, u128, u129, u130, u131, u132, u133, u134, u135, u136, u137, u138, u139, u140, u141, u142, u143, u144, u145, u146, u147, u148, u149, u150, u151, u152, u153, u154, u155, u156, u157, u158, u159, u160, u161, u162, u163, u164, u165, u166, u167, u168, u169, u170, u171, u172], []⟩ w := by
  refine wp_only ?_
  simp only [bentR, regCd, Tryz.f13, Option.getD_some, reduceIte, Nat.reduceEqDiff]
  have hpl := hM T[k] (List.getElem_mem hk)
  obtain ⟨pa, pc, c0, c1, hgl, hpr, hnext⟩ := hB.out.prop hk (by omega : T.length ≤ N) hM
  have hT0 : Tape B w.drew b := hB.out.drew.1
  obtain ⟨cst, hbt⟩ := hB.out.1.holds
  have hgb : g ≠ b := by
    obtain ⟨_, _, _, ⟨_, pvs, q1, q2, q3, q4, q5⟩, _⟩ := hB.out
    exact (holds_row hbt q2 (by decide)).symm
  obtain ⟨i0, hi, hz0, hz1, hz2⟩ := info_parts infoProp
  have HT0 := Lib.hid hT0
  clear hnext hpr hT0 hbt
  go_region_law (first
    | (go_simp; go_at_call 41; refine (mk_Property B b _ (by exact HT0.out)).mono ?_; rintro e w2 ⟨s, rfl, hsm, hT2, hK2⟩; have hK2' : Keeps (fun i => i = b) w w2 := ((Keeps.refl (fun i => i = b) w).drew).trans hK2 (fun _ _ e => e); have h2 := hB.out.call hT2 hK2'; have d0 := (hK2'.cell (p := ⟨g, k * 3 + 2, none⟩) hgl hgb).trans c0; have d1 := (hK2'.frozen (p := ⟨g, k * 3 + 2, none⟩) hgl hgb).trans c1; have hgl2 := Nat.lt_of_lt_of_le hgl hK2'.size; have hrow3 := bent_row h2 hk (by omega : T.length ≤ N) hM d0 s ⟨#[]⟩ (prop_small hsm))
    | (refine step_append_lies _ (by rfl) _ _ _ (by rfl) W.heap.size 65 i0 _ 2 32 Tryz.underlying61 hi hz0 hz1 hz2 rfl (by omega) _ T[k].props.length (propCells T[k].props) (by rfl) hrow3.out.1 ⟨w2.heap.size, 0, none⟩ 1 1 [.string s, .string ⟨#[]⟩] (by rfl) (by rfl) (World.news_of_block (cs := #[.string s, .string ⟨#[]⟩]) (t := 65) (fr := (0, 0)) (heap_alloc_new w2 _)) (by simp [Value.oneCell']) (by omega) (by unfold maxLen; omega) (by omega) (by have := h2.2.2.2.2.1.size; simp; omega) (w2.heap.size + 1) (by simp) ?_; intro gg cap2 w8 hown8 hgrow hat hlt8; obtain ⟨m0, m1, m2, hE⟩ := hrow3.out.2 _ w8 hown8 hgrow))
  all_goals
    go_wp2_with fail
    exact hQ.out _ _ _ _ _ _ _ _ _ _ _ _ _ hE
end Go.Proofs.YthkoaakicdhnpaaGreat

namespace Go.Proofs.YthkoaakicdhnpaaGreat
open Go.RowKit

def lBentP : List ByteArray := [⟨#[]⟩, ⟨#[97, 64, 49]⟩, ⟨#[49]⟩, ⟨#[122, 122]⟩]
theorem prop_smallP {s : ByteArray} (h : s ∈ lBentP) : PropOk ⟨s, ⟨#[]⟩⟩ := by
  have : ∀ x ∈ lBentP, x.size ≤ 9223372036854775807 := by decide
  exact ⟨this s h, by show (0 : Nat) ≤ _; omega⟩
theorem cell_alloc_old {g o : Nat} (w : World) (ob : Obj) (h : g < w.heap.size) : (w.alloc ob).cell? ⟨g, o, none⟩ = w.cell? ⟨g, o, none⟩ := ((Below.refl w.heap.size w).alloc (Nat.le_refl _) ob).cell (p := ⟨g, o, none⟩) h
set_option maxHeartbeats 4000000 in
set_option maxRecDepth 100000 in
theorem bent_r21 {Q : Exit → Act → World → Prop} (B b Z Rb N M g cap k : Nat) (T : List NodeT) (W w : World) (hk : k < T.length) (hN : T.length + 1 ≤ N) (_ : N ≤ 1000) (hM : ∀ n ∈ T, n.props.length + 1 ≤ M) (hM2 : M ≤ 1000) {u1 u2 u3 u4 u6 u7 u10 u11 u12 u13 u14 u15 u16 u17 u18 u19 u20 u21 u22 u23 u24 u25 u26 u27 u28 u29 u30 u31 u32 u33 u34 u35 u36 u37 u38 u39 u40 u41 u42 u43 u44 u45 u46 u47 u48 u49 u50 u51 u52 u53 u54 u55 u56 u57 u58 u59 u60 u61 u62 u63 u64 u65 u66 u67 u68 u69 u70 u71 u72 u73 u74 u75 u76 u77 u78 u79 u80 u81 u82 u83 u84 u85 u86 u87 u88 u89 u90 u91 u92 u93 u94 u95 u96 u97 u98 u99 u100 u101 u102 u103 u104 u105 u106 u107 u108 u109 u110 u111 u112 u113 u114 u115 u116 u117 u118 u119 u120 u121 u122 u123 u124 u125 u126 u127 u128 u129 u130 u131 u132 u133 u134 u135 u136 u137 u138 u139 u140 u141 u142 u143 u144 u145 u146 u147 u148 u149 u150 u151 u152 u153 u154 u155 u156 u157 u158 u159 u160 u161 u162 u163 u164 u165 u166 u167 u168 u169 u170 u171 u172 : Value}
    (hB : Hid (BentS B b Z Rb (.slice (some ⟨g, 0, none⟩) T.length cap) T W w)) (hQ : Hid (∀ (x88 x89 x90 x91 x92 x93 x94 x95 x96 x97 x98 x99 x100 x101 x102 : Value) (wx : World), BentE B b Z Rb N M W wx → Q .normal ⟨#[.pointer (some ⟨b, 0, none⟩), u1, u2, u3, u4, .pointer (some ⟨Z, 0, none⟩), u6, u7, .int .i64 k, .pointer (some ⟨g, k * 3, none⟩), u10, u11, u12, u13, u14, u15, u16, u17, u18, u19, u20, u21, u22, u23, u24, u25, u26, u27, u28, u29, u30, u31, u32, u33, u34, u35, u36, u37, u38, u39, u40, u41, u42, u43, u44, u45, u46, u47, u48, u49, u50, u51, u52, u53, u54, u55, u56, u57, u58, u59, u60, u61, u62, u63, u64, u65, u66, u67, u68, u69, u70, u71, u72, u73, u74, u75, u76, u77, u78, u79, u80, u81, u82, u83, u84, u85, u86, u87, x88, x89, x90, x91, x92, x93, x94, x95, x96, x97, x98, x99, x100, x101, x102, u103, u104, u105, u106, u107, u108, u109, u110, u111, u112, u113, u114, u115, u116, u117, u118, u119, u120, u121, u122, u123, u124, u125, u126, u127, u128, u129, u130, u131, u132, u133, u134, u135, u136, u137, u138, u139, u140, u141, u142, u143, u144, u145, u146, u147, u148, u149, u150, u151, u152, u153, u154, u155, u156, u157, u158, u159, u160, u161, u162, u163, u164, u165, u166, u167, u168, u169, u170, u171, u172], []⟩ wx)) :
    (bentR 21).wp Tryz.prog Q ⟨#[.pointer (some ⟨b, 0, none⟩), u1, u2, u3, u4, .pointer (some ⟨Z, 0, none⟩), u6, u7, .int .i64 k, .pointer (some ⟨g, k * 3, none⟩), u10, u11, u12, u13, u14, u15, u16, u17, u18, u19, u20, u21, u22, u23, u24, u25, u26, u27, u28, u29, u30, u31, u32, u33, u34, u35, u36, u37, u38, u39, u40, u41, u42, u43, u44, u45, u46, u47, u48, u49, u50, u51, u52, u53, u54, u55, u56, u57, u58, u59, u60, u61, u62, u63, u64, u65, u66, u67, u68, u69, u70, u71, u72, u73, u74, u75, u76, u77, u78, u79, u80, u81, u82, u83, u84, u85, u86, u87, u88, u89, u90, u91, u92, u93, u94, u95, u96, u97, u98, u99, u100, u101, u102, u103, u104, u105, u106, u107, u108, u109, u110, u111, u112, u113, u114, u115, u116, u117, u118, u119, u120, u121, u122, u123, u124, u125, u126, u127, u128, u129, u130, u131, u132, u133, u134, u135, u136, u137, u138, u139, u140, u141, u142, u143, u144, u145, u146, u147, u148, u149, u150, u151, u152, u153, u154, u155, u156, u157, u158, u159, u160, u161, u162, u163, u164, u165, u166, u167, u168, u169, u170, u171, u172], []⟩ w := by
  refine wp_only ?_
  simp only [bentR, regCd, Tryz.f13, Option.getD_some, reduceIte, Nat.reduceEqDiff]
  have hpl := hM T[k] (List.getElem_mem hk)
  obtain ⟨pa, pc, c0, c1, hgl, hpr, hnext⟩ := hB.out.prop hk (by omega : T.length ≤ N) hM
  have hT0 : Tape B w.drew b := hB.out.drew.1
  have hT1 : Tape B (w.drew.alloc (.cells (lBentP.map Value.string).toArray 9)) b := hT0.new ((Below.refl _ _).alloc (Nat.le_refl _) _)
  have hHL := Holds.new w.drew (lBentP.map Value.string).toArray 9
  have hTl := hB.out.1.lt
  obtain ⟨cst, hbt⟩ := hB.out.1.holds
  have hgb : g ≠ b := by
    obtain ⟨_, _, _, ⟨_, pvs, q1, q2, q3, q4, q5⟩, _⟩ := hB.out
    exact (holds_row hbt q2 (by decide)).symm
  obtain ⟨i0, hi, hz0, hz1, hz2⟩ := info_parts infoProp
  have HT0 := Lib.hid hT0
  have HT1 := Lib.hid hT1
  have HHL := Lib.hid hHL
  have hll : lBentP.length = 4 := rfl
  clear hnext hpr hT0 hbt hT1 hHL
  go_region_law (first
    | (go_simp; go_at_call 8; refine (mk_N B b 4 _ (by first | exact HT0.out | exact HT1.out) (by omega) (by omega)).mono ?_; rintro e w2 ⟨q, rfl, q0, q1, hT2, hK2⟩; obtain ⟨q, rfl⟩ := Int.eq_ofNat_of_zero_le q0; obtain ⟨s, hs1, hsm⟩ := pick_one lBentP q (by omega); have hs2 : (lBentP.map Value.string)[q]? = some (.string s) := (by simp [hs1]); simp only [lBentP, List.map_cons, List.map_nil] at hs2; have hK2' : Keeps (fun i => i = b) w w2 := (by first | exact ((Keeps.refl (fun i => i = b) w).drew).trans hK2 (fun _ _ e => e) | exact (((Keeps.refl (fun i => i = b) w).drew).alloc _).trans hK2 (fun _ _ e => e)); have h2 := hB.out.call hT2 hK2'; have h2' := h2.new ((Below.refl w2.heap.size w2).alloc (Nat.le_refl _) (.cells (lBentP.map Value.string).toArray 9)); have d0 := (hK2'.cell (p := ⟨g, k * 3 + 2, none⟩) hgl hgb).trans c0; have d1 := (hK2'.frozen (p := ⟨g, k * 3 + 2, none⟩) hgl hgb).trans c1; have hgl2 := Nat.lt_of_lt_of_le hgl hK2'.size; have hcl2 : (w2.alloc (.cells (lBentP.map Value.string).toArray 9)).cell? ⟨w2.heap.size, q, none⟩ = some (.string s) := ((Holds.new w2 (lBentP.map Value.string).toArray 9).cell q).trans (by simp [hs1]); (try have hcl1 : w2.cell? ⟨w.heap.size, q, none⟩ = some (.string s) := ((HHL.out.keeps hK2 (by show ¬ w.heap.size = b; omega)).cell q).trans (by simp [hs1])); (try have hsl1 : w.heap.size < w2.heap.size := (HHL.out.keeps hK2 (by show ¬ w.heap.size = b; omega)).lt); have hrow3 := bent_row h2 hk (by omega : T.length ≤ N) hM d0 s ⟨#[]⟩ (prop_smallP hsm); have hrow4 := bent_row h2' hk (by omega : T.length ≤ N) hM ((cell_alloc_old w2 _ hgl2).trans d0) s ⟨#[]⟩ (prop_smallP hsm))
    | (refine step_append_lies _ (by rfl) _ _ _ (by rfl) W.heap.size 65 i0 _ 2 32 Tryz.underlying61 hi hz0 hz1 hz2 rfl (by omega) _ T[k].props.length (propCells T[k].props) (by rfl) hrow3.out.1 ⟨w2.heap.size, 0, none⟩ 1 1 [.string s, .string ⟨#[]⟩] (by rfl) (by rfl) (World.news_of_block (cs := #[.string s, .string ⟨#[]⟩]) (t := 65) (fr := (0, 0)) (heap_alloc_new w2 _)) (by simp [Value.oneCell']) (by omega) (by unfold maxLen; omega) (by omega) (by have := h2.2.2.2.2.1.size; simp; omega) (w2.heap.size + 1) (by simp) ?_; intro gg cap2 w8 hown8 hgrow hat hlt8; obtain ⟨m0, m1, m2, hE⟩ := hrow3.out.2 _ w8 hown8 hgrow)
    | (refine step_append_lies _ (by rfl) _ _ _ (by rfl) W.heap.size 65 i0 _ 2 32 Tryz.underlying61 hi hz0 hz1 hz2 rfl (by omega) _ T[k].props.length (propCells T[k].props) (by rfl) hrow4.out.1 ⟨w2.heap.size + 1, 0, none⟩ 1 1 [.string s, .string ⟨#[]⟩] (by rfl) (by rfl) (by exact new_cells _ _ _ (w2.heap.size + 1) (by simp) _ rfl) (by simp [Value.oneCell']) (by omega) (by unfold maxLen; omega) (by omega) (by have := h2.2.2.2.2.1.size; simp; omega) (w2.heap.size + 1 + 1) (by simp) ?_; intro gg cap2 w8 hown8 hgrow hat hlt8; obtain ⟨m0, m1, m2, hE⟩ := hrow4.out.2 _ w8 hown8 hgrow))
  all_goals
    go_wp2_with fail
    exact hQ.out _ _ _ _ _ _ _ _ _ _ _ _ _ _ _ _ hE
end Go.Proofs.YthkoaakicdhnpaaGreat

namespace Go.Proofs.YthkoaakicdhnpaaGreat
open Go.RowKit

/-- What a second copy of a node asks, and what holds behind the store of the append's result. -/
theorem bent_node {B b Z Rb N M g cap k : Nat} {T : List NodeT} {W w : World} (h : BentS B b Z Rb (.slice (some ⟨g, 0, none⟩) T.length cap) T W w) (hk : k < T.length) (hN : T.length + 1 ≤ N) (hM : ∀ n ∈ T, n.props.length ≤ M) :
    ∃ pa pc, w.cell? ⟨g, k * 3, none⟩ = some (.int .i64 T[k].parent) ∧ w.cell? ⟨g, k * 3 + 1, none⟩ = some (.string T[k].name) ∧ w.cell? ⟨g, k * 3 + 2, none⟩ = some (.slice pa T[k].props.length pc) ∧ w.cell? ⟨Z, 0, none⟩ = some (.slice (some ⟨g, 0, none⟩) T.length cap) ∧ Z < w.heap.size ∧ g < w.heap.size ∧
      (∃ xs : List Value, w.ownsRow W.heap.size 63 3 (.slice (some ⟨g, 0, none⟩) T.length cap) T.length xs) ∧
      ∀ xs : List Value, w.ownsRow W.heap.size 63 3 (.slice (some ⟨g, 0, none⟩) T.length cap) T.length xs → ∀ (v8 : Value) (w8 : World), w8.ownsRow W.heap.size 63 3 v8 (T.length + 1) (xs ++ [.int .i64 T[k].parent, .string T[k].name, .slice pa T[k].props.length pc]) → (w.drew.alloc (.cells #[.int .i64 T[k].parent, .string T[k].name, .slice pa T[k].props.length pc] 63)).grownBy w8 (Value.slice (some ⟨g, 0, none⟩) T.length cap).ownBlock →
        Z < w8.heap.size ∧ w8.frozen? ⟨Z, 0, none⟩ = false ∧ w8.cell? ⟨Z, 0, none⟩ = some (.slice (some ⟨g, 0, none⟩) T.length cap) ∧ BentE B b Z Rb N M W (w8.setCell ⟨Z, 0, none⟩ v8) := by
  have hr := h.2.2.2.1.row
  obtain ⟨_, pa, pc, rfl, c0, c1, c2, hp, hok⟩ := hr.at k hk
  obtain ⟨_, _, q2, _, _⟩ := id hr
  refine ⟨pa, pc, c0, c1, c2, h.2.1.cell 0, h.2.1.lt, (q2.lt g rfl).2, ⟨_, q2⟩, fun xs hx v8 w8 hown hg => ?_⟩
  exact h.drew.node (nd := T[k]) rfl hN hM (hM _ (List.getElem_mem hk)) hp hok hx hown hg
set_option maxHeartbeats 4000000 in
set_option maxRecDepth 100000 in
theorem bent_r23 {Q : Exit → Act → World → Prop} (B b Z Rb N M g cap k : Nat) (T : List NodeT) (W w : World) (hk : k < T.length) (hN : T.length + 1 ≤ N) (hN2 : N ≤ 1000) (hM : ∀ n ∈ T, n.props.length + 1 ≤ M) (_ : M ≤ 1000) {u1 u2 u3 u4 u6 u7 u10 u11 u12 u13 u14 u15 u16 u17 u18 u19 u20 u21 u22 u23 u24 u25 u26 u27 u28 u29 u30 u31 u32 u33 u34 u35 u36 u37 u38 u39 u40 u41 u42 u43 u44 u45 u46 u47 u48 u49 u50 u51 u52 u53 u54 u55 u56 u57 u58 u59 u60 u61 u62 u63 u64 u65 u66 u67 u68 u69 u70 u71 u72 u73 u74 u75 u76 u77 u78 u79 u80 u81 u82 u83 u84 u85 u86 u87 u88 u89 u90 u91 u92 u93 u94 u95 u96 u97 u98 u99 u100 u101 u102 u103 u104 u105 u106 u107 u108 u109 u110 u111 u112 u113 u114 u115 u116 u117 u118 u119 u120 u121 u122 u123 u124 u125 u126 u127 u128 u129 u130 u131 u132 u133 u134 u135 u136 u137 u138 u139 u140 u141 u142 u143 u144 u145 u146 u147 u148 u149 u150 u151 u152 u153 u154 u155 u156 u157 u158 u159 u160 u161 u162 u163 u164 u165 u166 u167 u168 u169 u170 u171 u172 : Value}
    (hB : Hid (BentS B b Z Rb (.slice (some ⟨g, 0, none⟩) T.length cap) T W w)) (hQ : Hid (∀ (x105 x106 x107 x108 x109 x110 x111 x112 x113 x114 : Value) (wx : World), BentE B b Z Rb N M W wx → Q .normal ⟨#[.pointer (some ⟨b, 0, none⟩), u1, u2, u3, u4, .pointer (some ⟨Z, 0, none⟩), u6, u7, .int .i64 k, .pointer (some ⟨g, k * 3, none⟩), u10, u11, u12, u13, u14, u15, u16, u17, u18, u19, u20, u21, u22, u23, u24, u25, u26, u27, u28, u29, u30, u31, u32, u33, u34, u35, u36, u37, u38, u39, u40, u41, u42, u43, u44, u45, u46, u47, u48, u49, u50, u51, u52, u53, u54, u55, u56, u57, u58, u59, u60, u61, u62, u63, u64, u65, u66, u67, u68, u69, u70, u71, u72, u73, u74, u75, u76, u77, u78, u79, u80, u81, u82, u83, u84, u85, u86, u87, u88, u89, u90, u91, u92, u93, u94, u95, u96, u97, u98, u99, u100, u101, u102, u103, u104, x105, x106, x107, x108, x109, x110, x111, x112, x113, x114, u115, u116, u117, u118, u119, u120, u121, u122, u123, u124, u125, u126, u127, u128, u129, u130, u131, u132, u133, u134, u135, u136, u137, u138, u139, u140, u141, u142, u143, u144, u145, u146, u147, u148, u149, u150, u151, u152, u153, u154, u155, u156, u157, u158, u159, u160, u161, u162, u163, u164, u165, u166, u167, u168, u169, u170, u171, u172], []⟩ wx)) :
    (bentR 23).wp Tryz.prog Q ⟨#[.pointer (some ⟨b, 0, none⟩), u1, u2, u3, u4, .pointer (some ⟨Z, 0, none⟩), u6, u7, .int .i64 k, .pointer (some ⟨g, k * 3, none⟩), u10, u11, u12, u13, u14, u15, u16, u17, u18, u19, u20, u21, u22, u23, u24, u25, u26, u27, u28, u29, u30, u31, u32, u33, u34, u35, u36, u37, u38, u39, u40, u41, u42, u43, u44, u45, u46, u47, u48, u49, u50, u51, u52, u53, u54, u55, u56, u57, u58, u59, u60, u61, u62, u63, u64, u65, u66, u67, u68, u69, u70, u71, u72, u73, u74, u75, u76, u77, u78, u79, u80, u81, u82, u83, u84, u85, u86, u87, u88, u89, u90, u91, u92, u93, u94, u95, u96, u97, u98, u99, u100, u101, u102, u103, u104, u105, u106, u107, u108, u109, u110, u111, u112, u113, u114, u115, u116, u117, u118, u119, u120, u121, u122, u123, u124, u125, u126, u127, u128, u129, u130, u131, u132, u133, u134, u135, u136, u137, u138, u139, u140, u141, u142, u143, u144, u145, u146, u147, u148, u149, u150, u151, u152, u153, u154, u155, u156, u157, u158, u159, u160, u161, u162, u163, u164, u165, u166, u167, u168, u169, u170, u171, u172], []⟩ w := by
  refine wp_only ?_
  simp only [bentR, regCd, Tryz.f13, Option.getD_some, reduceIte, Nat.reduceEqDiff]
  have hpl := hM T[k] (List.getElem_mem hk)
  obtain ⟨pa, pc, n0, n1, n2, z0, zl, hgl, hrow, hnext⟩ := bent_node (M := M) hB.out hk hN (fun n hn => by have := hM n hn; omega)
  obtain ⟨i0, hi, hz0, hz1, hz2⟩ := info_parts infoNd
  have hki : (k : Int) < (T.length : Int) := by omega
  have hki0 : (0 : Int) ≤ (k : Int) := by omega
  obtain ⟨xs, hown⟩ := hrow
  have HOWN := Lib.hid (World.ownsRow.alloc (show w.drew.ownsRow W.heap.size 63 3 (.slice (some ⟨g, 0, none⟩) T.length cap) T.length xs from hown) (.cells #[.int .i64 T[k].parent, .string T[k].name, .slice pa T[k].props.length pc] 63))
  have HPL := Lib.hid hown
  have HNX := Lib.hid hnext
  have hWw := hB.out.2.2.2.2.1.size
  clear hown hnext
  go_region_law (refine step_append_lies _ (by rfl) _ _ _ (by rfl) W.heap.size 63 i0 _ 3 48 Tryz.underlying23 hi hz0 hz1 hz2 rfl (by omega) _ T.length xs (by rfl) HOWN.out ⟨w.heap.size, 0, none⟩ 1 1 [.int .i64 T[k].parent, .string T[k].name, .slice pa T[k].props.length pc] (by rfl) (by rfl) (World.news_of_block (cs := #[.int .i64 T[k].parent, .string T[k].name, .slice pa T[k].props.length pc]) (t := 63) (fr := (0, 0)) (heap_alloc_new w.drew _)) (by simp [Value.oneCell']) (by omega) (by unfold maxLen; omega) (by omega) (by simp; omega) (w.heap.size + 1) (by simp) ?_; intro gg cap2 w8 hown8 hgrow hat hlt8; obtain ⟨m0, m1, m2, hE⟩ := HNX.out xs HPL.out _ w8 hown8 hgrow)
  all_goals
    go_wp2_with fail
    exact hQ.out _ _ _ _ _ _ _ _ _ _ _ hE
end Go.Proofs.YthkoaakicdhnpaaGreat

namespace Go.Proofs.YthkoaakicdhnpaaGreat
open Go.RowKit

set_option maxHeartbeats 4000000 in
set_option maxRecDepth 100000 in
theorem bent_r28 {Q : Exit → Act → World → Prop} (B b Z Rb N M g cap k : Nat) (T : List NodeT) (W w : World) (hk : k < T.length) (hN : T.length + 1 ≤ N) (_ : N ≤ 1000) (hM : ∀ n ∈ T, n.props.length + 1 ≤ M) (hM2 : M ≤ 1000) (ab : Option Addr) (cb : Nat) (acc : List UInt8) (hacc : acc.length ≤ 1000) (hbr : w.ownsRow W.heap.size 5 1 (.slice ab acc.length cb) acc.length (Lib.byteCells acc)) {u1 u2 u3 u4 u6 u7 u11 u12 u13 u14 u15 u16 u17 u18 u19 u20 u21 u22 u23 u24 u25 u26 u27 u28 u29 u30 u31 u32 u33 u34 u35 u36 u37 u38 u39 u40 u41 u42 u43 u44 u45 u46 u47 u48 u49 u50 u51 u52 u53 u54 u55 u56 u57 u58 u59 u60 u61 u62 u63 u64 u65 u66 u67 u68 u69 u70 u71 u72 u73 u74 u75 u76 u77 u78 u79 u80 u81 u82 u83 u84 u85 u86 u87 u88 u89 u90 u91 u92 u93 u94 u95 u96 u97 u98 u99 u100 u101 u102 u103 u104 u105 u106 u107 u108 u109 u110 u111 u112 u113 u114 u115 u116 u117 u118 u119 u120 u121 u122 u123 u124 u125 u126 u127 u128 u129 u130 u131 u132 u133 u134 u135 u136 u137 u138 u139 u140 u141 u142 u143 u144 u145 u146 u147 u148 u149 u150 u151 u152 u153 u154 u155 u156 u157 u158 u159 u160 u161 u162 u163 u164 u165 u166 u167 u168 u169 u170 u171 u172 : Value}
    (hB : Hid (BentS B b Z Rb (.slice (some ⟨g, 0, none⟩) T.length cap) T W w)) (hQ : Hid (∀ (x130 x131 x132 x133 x134 x135 x136 x137 x138 x139 x140 x141 : Value) (wx : World), BentE B b Z Rb N M W wx → Q .normal ⟨#[.pointer (some ⟨b, 0, none⟩), u1, u2, u3, u4, .pointer (some ⟨Z, 0, none⟩), u6, u7, .int .i64 k, .pointer (some ⟨g, k * 3, none⟩), .slice ab acc.length cb, u11, u12, u13, u14, u15, u16, u17, u18, u19, u20, u21, u22, u23, u24, u25, u26, u27, u28, u29, u30, u31, u32, u33, u34, u35, u36, u37, u38, u39, u40, u41, u42, u43, u44, u45, u46, u47, u48, u49, u50, u51, u52, u53, u54, u55, u56, u57, u58, u59, u60, u61, u62, u63, u64, u65, u66, u67, u68, u69, u70, u71, u72, u73, u74, u75, u76, u77, u78, u79, u80, u81, u82, u83, u84, u85, u86, u87, u88, u89, u90, u91, u92, u93, u94, u95, u96, u97, u98, u99, u100, u101, u102, u103, u104, u105, u106, u107, u108, u109, u110, u111, u112, u113, u114, u115, u116, u117, u118, u119, u120, u121, u122, u123, u124, u125, u126, u127, u128, u129, x130, x131, x132, x133, x134, x135, x136, x137, x138, x139, x140, x141, u142, u143, u144, u145, u146, u147, u148, u149, u150, u151, u152, u153, u154, u155, u156, u157, u158, u159, u160, u161, u162, u163, u164, u165, u166, u167, u168, u169, u170, u171, u172], []⟩ wx)) :
    (bentR 28).wp Tryz.prog Q ⟨#[.pointer (some ⟨b, 0, none⟩), u1, u2, u3, u4, .pointer (some ⟨Z, 0, none⟩), u6, u7, .int .i64 k, .pointer (some ⟨g, k * 3, none⟩), .slice ab acc.length cb, u11, u12, u13, u14, u15, u16, u17, u18, u19, u20, u21, u22, u23, u24, u25, u26, u27, u28, u29, u30, u31, u32, u33, u34, u35, u36, u37, u38, u39, u40, u41, u42, u43, u44, u45, u46, u47, u48, u49, u50, u51, u52, u53, u54, u55, u56, u57, u58, u59, u60, u61, u62, u63, u64, u65, u66, u67, u68, u69, u70, u71, u72, u73, u74, u75, u76, u77, u78, u79, u80, u81, u82, u83, u84, u85, u86, u87, u88, u89, u90, u91, u92, u93, u94, u95, u96, u97, u98, u99, u100, u101, u102, u103, u104, u105, u106, u107, u108, u109, u110, u111, u112, u113, u114, u115, u116, u117, u118, u119, u120, u121, u122, u123, u124, u125, u126, u127, u128, u129, u130, u131, u132, u133, u134, u135, u136, u137, u138, u139, u140, u141, u142, u143, u144, u145, u146, u147, u148, u149, u150, u151, u152, u153, u154, u155, u156, u157, u158, u159, u160, u161, u162, u163, u164, u165, u166, u167, u168, u169, u170, u171, u172], []⟩ w := by
  refine wp_only ?_
  simp only [bentR, regCd, Tryz.f13, Option.getD_some, reduceIte, Nat.reduceEqDiff]
  have hpl := hM T[k] (List.getElem_mem hk)
  obtain ⟨pa, pc, c0, c1, hgl, hpr, hnext⟩ := hB.out.prop hk (by omega : T.length ≤ N) hM
  obtain ⟨i0, hi, hz0, hz1, hz2⟩ := info_parts infoProp
  have hcv := bytes_conv (show w.drew.ownsRow W.heap.size 5 1 (.slice ab acc.length cb) acc.length (Lib.byteCells acc) from hbr)
  have hWw := hB.out.2.2.2.2.1.size
  have hzz : (⟨acc.toArray⟩ : ByteArray).size ≤ 9223372036854775807 := by show acc.toArray.size ≤ _; simp; omega
  have hrow3 := bent_row hB.out.drew hk (by omega : T.length ≤ N) hM c0 ⟨#[122, 122]⟩ ⟨acc.toArray⟩ ⟨by show (⟨#[122, 122]⟩ : ByteArray).size ≤ _; decide, hzz⟩
  clear hnext hpr hbr hzz
  generalize (⟨acc.toArray⟩ : ByteArray) = val at *
  go_region_law (refine step_append_lies _ (by rfl) _ _ _ (by rfl) W.heap.size 65 i0 _ 2 32 Tryz.underlying61 hi hz0 hz1 hz2 rfl (by omega) _ T[k].props.length (propCells T[k].props) (by rfl) hrow3.out.1 ⟨w.heap.size, 0, none⟩ 1 1 [.string ⟨#[122, 122]⟩, .string val] (by rfl) (by rfl) (World.news_of_block (cs := #[.string ⟨#[122, 122]⟩, .string val]) (t := 65) (fr := (0, 0)) (heap_alloc_new w.drew _)) (by simp [Value.oneCell']) (by omega) (by unfold maxLen; omega) (by omega) (by simp; omega) (w.heap.size + 1) (by simp) ?_; intro gg cap2 w8 hown8 hgrow hat hlt8; obtain ⟨m0, m1, m2, hE⟩ := hrow3.out.2 _ w8 hown8 hgrow)
  all_goals
    go_wp2_with fail
    exact hQ.out _ _ _ _ _ _ _ _ _ _ _ _ _ hE
end Go.Proofs.YthkoaakicdhnpaaGreat

namespace Go.Proofs.YthkoaakicdhnpaaGreat
open Go.RowKit

/-- Two neighbours of a row exchanged. -/
theorem props_swap {w : World} {base gp n cp : Nat} {ps r : List PropT} {p0 p1 : PropT} (hr : PropRow w base (.slice (some ⟨gp, 0, none⟩) n cp) ps) (hps : ps = p0 :: p1 :: r) :
    w.cell? ⟨gp, 0, none⟩ = some (.string p0.name) ∧ w.cell? ⟨gp, 1, none⟩ = some (.string p0.value) ∧ w.cell? ⟨gp, 2, none⟩ = some (.string p1.name) ∧ w.cell? ⟨gp, 3, none⟩ = some (.string p1.value) ∧ (∀ o, w.frozen? ⟨gp, o, none⟩ = false) ∧ gp < w.heap.size ∧
      PropRow ((((w.drew.setCell ⟨gp, 0, none⟩ (.string p1.name)).setCell ⟨gp, 1, none⟩ (.string p1.value)).setCell ⟨gp, 2, none⟩ (.string p0.name)).setCell ⟨gp, 3, none⟩ (.string p0.value)) base (.slice (some ⟨gp, 0, none⟩) n cp) (p1 :: p0 :: r) ∧
      Keeps (fun b => (Value.slice (some ⟨gp, 0, none⟩) n cp).ownBlock = some b) w ((((w.drew.setCell ⟨gp, 0, none⟩ (.string p1.name)).setCell ⟨gp, 1, none⟩ (.string p1.value)).setCell ⟨gp, 2, none⟩ (.string p0.name)).setCell ⟨gp, 3, none⟩ (.string p0.value)) := by
  subst hps
  obtain ⟨_, cur, hH⟩ := owned_holds hr.1 rfl
  have hn : n = (p0 :: p1 :: r).length := by
    rcases hr.1.2 with ⟨e, _⟩ | ⟨_, _, _, e, _⟩
    · cases e
    · cases e; rfl
  subst hn
  have k0 := hr.1.cellAt 0 (by show 0 < (r.length + 1 + 1) * 2; omega)
  have k1 := hr.1.cellAt 1 (by show 1 < (r.length + 1 + 1) * 2; omega)
  have k2 := hr.1.cellAt 2 (by show 2 < (r.length + 1 + 1) * 2; omega)
  have k3 := hr.1.cellAt 3 (by show 3 < (r.length + 1 + 1) * 2; omega)
  have hd : w.drew.ownsRow base 65 2 (.slice (some ⟨gp, 0, none⟩) (p0 :: p1 :: r).length cp) (p0 :: p1 :: r).length (propCells (p0 :: p1 :: r)) := hr.1
  have t1 := (hd.stored 0 (.string p1.name)).1
  have t2 := (t1.stored 1 (.string p1.value)).1
  have t3 := (t2.stored 2 (.string p0.name)).1
  have t4 := (t3.stored 3 (.string p0.value)).1
  refine ⟨k0, k1, k2, k3, fun o => hH.free o, hH.lt, ⟨t4, fun q hq => hr.2 q ?_⟩, ?_⟩
  · simp only [List.mem_cons] at hq ⊢
    rcases hq with h | h | h
    · exact .inr (.inl h)
    · exact .inl h
    · exact .inr (.inr h)
  · exact (((((Keeps.refl (fun b => (Value.slice (some ⟨gp, 0, none⟩) (p0 :: p1 :: r).length cp).ownBlock = some b) w).drew).setCell (p := ⟨gp, 0, none⟩) (.inr rfl) _).setCell (p := ⟨gp, 1, none⟩) (.inr rfl) _).setCell (p := ⟨gp, 2, none⟩) (.inr rfl) _).setCell (p := ⟨gp, 3, none⟩) (.inr rfl) _
set_option maxHeartbeats 4000000 in
set_option maxRecDepth 100000 in
theorem bent_r31 {Q : Exit → Act → World → Prop} (B b Z Rb N M g cap k : Nat) (T : List NodeT) (W w : World) (hk : k < T.length) (hN : T.length + 1 ≤ N) (_ : N ≤ 1000) (hM : ∀ n ∈ T, n.props.length + 1 ≤ M) (_ : M ≤ 1000) (hl : 1 < T[k].props.length) {u1 u2 u3 u4 u6 u7 u10 u11 u12 u13 u14 u15 u16 u17 u18 u19 u20 u21 u22 u23 u24 u25 u26 u27 u28 u29 u30 u31 u32 u33 u34 u35 u36 u37 u38 u39 u40 u41 u42 u43 u44 u45 u46 u47 u48 u49 u50 u51 u52 u53 u54 u55 u56 u57 u58 u59 u60 u61 u62 u63 u64 u65 u66 u67 u68 u69 u70 u71 u72 u73 u74 u75 u76 u77 u78 u79 u80 u81 u82 u83 u84 u85 u86 u87 u88 u89 u90 u91 u92 u93 u94 u95 u96 u97 u98 u99 u100 u101 u102 u103 u104 u105 u106 u107 u108 u109 u110 u111 u112 u113 u114 u115 u116 u117 u118 u119 u120 u121 u122 u123 u124 u125 u126 u127 u128 u129 u130 u131 u132 u133 u134 u135 u136 u137 u138 u139 u140 u141 u142 u143 u144 u145 u146 u147 u148 u149 u150 u151 u152 u153 u154 u155 u156 u157 u158 u159 u160 u161 u162 u163 u164 u165 u166 u167 u168 u169 u170 u171 u172 : Value}
    (hB : Hid (BentS B b Z Rb (.slice (some ⟨g, 0, none⟩) T.length cap) T W w)) (hQ : Hid (∀ (x150 x151 x152 x153 x154 x155 x156 x157 x158 x159 x160 x161 x162 x163 x164 x165 x166 x167 x168 x169 x170 x171 : Value) (wx : World), BentE B b Z Rb N M W wx → Q .normal ⟨#[.pointer (some ⟨b, 0, none⟩), u1, u2, u3, u4, .pointer (some ⟨Z, 0, none⟩), u6, u7, .int .i64 k, .pointer (some ⟨g, k * 3, none⟩), u10, u11, u12, u13, u14, u15, u16, u17, u18, u19, u20, u21, u22, u23, u24, u25, u26, u27, u28, u29, u30, u31, u32, u33, u34, u35, u36, u37, u38, u39, u40, u41, u42, u43, u44, u45, u46, u47, u48, u49, u50, u51, u52, u53, u54, u55, u56, u57, u58, u59, u60, u61, u62, u63, u64, u65, u66, u67, u68, u69, u70, u71, u72, u73, u74, u75, u76, u77, u78, u79, u80, u81, u82, u83, u84, u85, u86, u87, u88, u89, u90, u91, u92, u93, u94, u95, u96, u97, u98, u99, u100, u101, u102, u103, u104, u105, u106, u107, u108, u109, u110, u111, u112, u113, u114, u115, u116, u117, u118, u119, u120, u121, u122, u123, u124, u125, u126, u127, u128, u129, u130, u131, u132, u133, u134, u135, u136, u137, u138, u139, u140, u141, u142, u143, u144, u145, u146, u147, u148, u149, x150, x151, x152, x153, x154, x155, x156, x157, x158, x159, x160, x161, x162, x163, x164, x165, x166, x167, x168, x169, x170, x171, u172], []⟩ wx)) :
    (bentR 31).wp Tryz.prog Q ⟨#[.pointer (some ⟨b, 0, none⟩), u1, u2, u3, u4, .pointer (some ⟨Z, 0, none⟩), u6, u7, .int .i64 k, .pointer (some ⟨g, k * 3, none⟩), u10, u11, u12, u13, u14, u15, u16, u17, u18, u19, u20, u21, u22, u23, u24, u25, u26, u27, u28, u29, u30, u31, u32, u33, u34, u35, u36, u37, u38, u39, u40, u41, u42, u43, u44, u45, u46, u47, u48, u49, u50, u51, u52, u53, u54, u55, u56, u57, u58, u59, u60, u61, u62, u63, u64, u65, u66, u67, u68, u69, u70, u71, u72, u73, u74, u75, u76, u77, u78, u79, u80, u81, u82, u83, u84, u85, u86, u87, u88, u89, u90, u91, u92, u93, u94, u95, u96, u97, u98, u99, u100, u101, u102, u103, u104, u105, u106, u107, u108, u109, u110, u111, u112, u113, u114, u115, u116, u117, u118, u119, u120, u121, u122, u123, u124, u125, u126, u127, u128, u129, u130, u131, u132, u133, u134, u135, u136, u137, u138, u139, u140, u141, u142, u143, u144, u145, u146, u147, u148, u149, u150, u151, u152, u153, u154, u155, u156, u157, u158, u159, u160, u161, u162, u163, u164, u165, u166, u167, u168, u169, u170, u171, u172], []⟩ w := by
  refine wp_only ?_
  simp only [bentR, regCd, Tryz.f13, Option.getD_some, reduceIte, Nat.reduceEqDiff]
  have hpl := hM T[k] (List.getElem_mem hk)
  obtain ⟨pa, pc, c0, hgl, hpr, hnext⟩ := hB.out.row hk (by omega : T.length ≤ N) (fun n hn => by have := hM n hn; omega : ∀ n ∈ T, n.props.length ≤ M)
  obtain ⟨gp, cp, hpe, hgp1, hgp2⟩ := hpr.1.form (by omega)
  obtain ⟨rfl, rfl⟩ : pa = some ⟨gp, 0, none⟩ ∧ pc = cp := by cases hpe; exact ⟨rfl, rfl⟩
  obtain ⟨p0, p1, r, hps⟩ : ∃ p0 p1 r, T[k].props = p0 :: p1 :: r := by
    cases h : T[k].props with
    | nil => rw [h] at hl; simp at hl
    | cons p0 l => cases l with
      | nil => rw [h] at hl; simp at hl
      | cons p1 r => exact ⟨p0, p1, r, rfl⟩
  have hli : (1 : Int) < (T[k].props.length : Int) := by omega
  have hli0 : (0 : Int) < (T[k].props.length : Int) := by omega
  have hli1 : 0 < T[k].props.length := by omega
  obtain ⟨d0, d1, d2, d3, dfr, hgpl, hsw⟩ := props_swap hpr hps
  have HE := Lib.hid (fun (w' : World) h1 h2 => hnext w' (p1 :: p0 :: r) h1 (by rw [hps] at hpl; simp at hpl ⊢; omega) h2)
  have HSW := Lib.hid hsw
  have f0 := dfr 0
  have f1 := dfr 1
  have f2 := dfr 2
  have f3 := dfr 3
  clear hnext hpr hps hsw dfr hpe
  generalize T[k].props.length = n0 at *
  go_still_tail 20, (by kernel_rfl)
  go_wp2_with fail
  obtain ⟨s1, s2⟩ := HSW.out
  exact hQ.out _ _ _ _ _ _ _ _ _ _ _ _ _ _ _ _ _ _ _ _ _ _ _ (HE.out _ s1 s2)
end Go.Proofs.YthkoaakicdhnpaaGreat

namespace Go.Proofs.YthkoaakicdhnpaaGreat
open Go.RowKit

theorem BentS.cells {B b Z Rb g cap k : Nat} {T : List NodeT} {W w : World} (h : BentS B b Z Rb (.slice (some ⟨g, 0, none⟩) T.length cap) T W w) (hk : k < T.length) :
    w.cell? ⟨g, k * 3, none⟩ = some (.int .i64 T[k].parent) ∧ w.cell? ⟨g, k * 3 + 1, none⟩ = some (.string T[k].name) ∧ w.frozen? ⟨g, k * 3, none⟩ = false ∧ w.frozen? ⟨g, k * 3 + 1, none⟩ = false ∧ g < w.heap.size := by
  have hr := h.2.2.2.1.row
  obtain ⟨_, pa, pc, rfl, c0, c1, c2, hp, hok⟩ := hr.at k hk
  obtain ⟨qvs, q1, q2, _, _⟩ := id hr
  exact ⟨c0, c1, q2.frozenAt _, q2.frozenAt _, (q2.lt g rfl).2⟩
theorem BentS.props {B b Z Rb g cap k : Nat} {T : List NodeT} {W w : World} (h : BentS B b Z Rb (.slice (some ⟨g, 0, none⟩) T.length cap) T W w) (hk : k < T.length) :
    ∃ pa pc, w.cell? ⟨g, k * 3 + 2, none⟩ = some (.slice pa T[k].props.length pc) := by
  obtain ⟨_, pa, pc, rfl, c0, c1, c2, hp, hok⟩ := h.2.2.2.1.row.at k hk
  exact ⟨pa, pc, c2⟩
def lBentN : List ByteArray := [⟨#[]⟩, ⟨#[97]⟩, ⟨#[122]⟩, ⟨#[49]⟩, ⟨#[97, 32, 98]⟩, ⟨#[35, 97]⟩, ⟨#[97, 50, 51, 52, 53, 54, 55, 56, 57, 48, 49, 50, 51, 52, 53, 54, 55, 56, 57, 48, 49, 50, 51, 52, 53, 54, 55, 56, 57, 48, 49]⟩, ⟨#[97, 50, 51, 52, 53, 54, 55, 56, 57, 48, 49, 50, 51, 52, 53, 54, 55, 56, 57, 48, 49, 50, 51, 52, 53, 54, 55, 56, 57, 48, 49, 50]⟩]
theorem name_small {s : ByteArray} (h : s ∈ lBentN) : s.size ≤ 9223372036854775807 := by
  have : ∀ x ∈ lBentN, x.size ≤ 9223372036854775807 := by decide
  exact this s h
theorem row_cell {w : World} {g : Nat} {l : List Int} (h : Holds w g (l.map (Value.int .i64)).toArray 3) (i : Nat) (hi : i < l.length) : w.cell? ⟨g, 0 + i, none⟩ = some (.int .i64 l[i]) := by
  rw [Nat.zero_add, h.cell i]; simp [hi]
theorem bent_bytes (n : Nat) (hn : n ≤ 1000) (wx : World) : (Instr.makeSlice 77 (.int .i64 n) (.int .i64 n)).run Tryz.prog wx = .ok (.slice (some ⟨wx.heap.size, 0, none⟩) n n) (wx.alloc (.cells (Array.replicate n (.int .u8 0)) 5)) := by
  obtain ⟨i0, hi, hz0, hz1, hz2⟩ := info_parts infoByte
  have := run_make (P := Tryz.prog) wx 77 5 i0 _ Tryz.underlying77 hi hz0 .i64 .i64 n n (by omega) (by omega) (by rw [hz2]; omega) (by omega)
  rw [this, hz1, show (Value.int .u8 0).cells = #[.int .u8 0] from rfl]
  simp [madeCells_one]
theorem bytes_made (w : World) (n base : Nat) (hb : base ≤ w.heap.size) (hn : n ≤ 257) : ∃ acc : List UInt8, acc.length = n ∧ (w.alloc (.cells (Array.replicate n (.int .u8 0)) 5)).ownsRow base 5 1 (.slice (some ⟨w.heap.size, 0, none⟩) acc.length acc.length) acc.length (Lib.byteCells acc) := by
  refine ⟨List.replicate n 0, by simp, ?_⟩
  have := row_built (w := w) (base := base) (e := 5) (size := 1) (n := n) (cs := Array.replicate n (.int .u8 0)) rfl hb (by simp) (by omega)
  rw [List.length_replicate]
  have e : Lib.byteCells (List.replicate n 0) = (Array.replicate n (Value.int .u8 0)).toList := by simp [Lib.byteCells]
  rw [e]; exact this
def BentM (B b Z Rb N M : Nat) (W : World) (_ : Value) (w : World) : Prop := BentE B b Z Rb N M W w
def BentL (T : List NodeT) (w : World) (f : Nat) (x : Value) (wr : World) : Prop :=
  ∃ (k : Nat) (v : Value), x = .int .i64 k ∧ k ≤ T.length ∧ T.length ≤ k + f ∧ Holds wr (w.heap.size + 1 + 1) #[v] 25 ∧ TreeS wr w.heap.size v (T.take k) ∧ Holds wr (w.heap.size + 1) #[.slice none 0 0] 25 ∧ Below w.heap.size w wr
def BentPost (B b N M : Nat) (w : World) (e : Ending) (w' : World) : Prop :=
  ∃ v T', e = .returned (.agg #[v]) ∧ TreeRow w' w.heap.size v T' ∧ T'.length ≤ N ∧ (∀ n ∈ T', n.props.length ≤ M) ∧ Tape B w' b ∧ Keeps (fun i => i = b) w w'

set_option maxRecDepth 100000 in
set_option maxHeartbeats 4000000 in
theorem grow_Bent (B b N M : Nat) (R : Nat → Prop) (v : Value) (T : List NodeT) (w : World) (hTp : Tape B w b) (hT : NodesIn R w v T) (hl : T.length + 1 ≤ N) (hN2 : N ≤ 900) (hM : ∀ n ∈ T, n.props.length + 1 ≤ M) (hM2 : M ≤ 900) :
    Calls Tryz.prog 13 #[.pointer (some ⟨b, 0, none⟩), .agg #[v]] w (BentPost B b N M w) := by
  obtain ⟨a, cap, rfl, hc1, hc2⟩ := hT.shape
  have HT := Lib.hid hT; clear hT
  have HPS := Lib.hid (fun n hn => by have := hM n hn; omega : ∀ n ∈ T, n.props.length ≤ 1000)
  have HM := Lib.hid hM
  have HTP := Lib.hid hTp
  have hblt := hTp.lt
  clear hM hTp
  go_enter Tryz.func13, Tryz.ntmps13
  go_wp2_with fail
  go_loopg [14] (T.length) (fun f x wr => BentL T w f x wr)
  case atStart => exact ⟨0, _, rfl, by omega, by omega, Holds.newAt (w := (w.alloc _).alloc _) (by simp) _ _, TreeS.nil _ _, (Holds.newAt (w := w.alloc _) (by simp) _ _).alloc _, (((Below.refl _ _).alloc (Nat.le_refl _) _).alloc (by simp) _).alloc (by simp; omega) _⟩
  case round =>
    obtain ⟨k, v, rfl, hk, hf, hO, hR, hZ, hb⟩ := hrel
    have hbs := hb.size
    by_cases hlt : k < T.length
    · obtain ⟨g, o, pa, pc, rfl, hg, c0, c1, c2, hp, p1, p2, b0, b1, b2⟩ := (HT.out.new hb).at k hlt
      have hpl := HPS.out T[k] (List.getElem_mem hlt)
      have hnok : NodeOk T[k] := ⟨b0, b1, b2⟩
      have hN0 := Holds.new wr #[.int .i64 T[k].parent, .string T[k].name, .slice pa T[k].props.length pc] 63
      have hb0 : Below wr.heap.size wr (wr.alloc (.cells #[.int .i64 T[k].parent, .string T[k].name, .slice pa T[k].props.length pc] 63)) := (Below.refl _ _).alloc (Nat.le_refl _) _
      have HPI := Lib.hid (hp.new hb0)
      clear hp
      have hTk := Lib.hid (take_more hlt)
      have HNK := Lib.hid hnok
      clear hnok
      generalize T[k] = nd at *
      go_upto_region 5 with fail
      go_cut [7] (fun y wx => CopyMid nd wr.heap.size wr y wx)
      case first =>
        have hE := Holds.newAt (w := wr.alloc (.cells #[.int .i64 nd.parent, .string nd.name, .slice pa nd.props.length pc] 63)) (B := wr.heap.size + 1) (by simp) #[] 65
        have n2 := hN0.cell 2
        have f2 := hN0.free 2
        have l2 := hN0.lt
        obtain ⟨i0, hi, hz0, hz1, hz2⟩ := info_parts infoProp
        by_cases hpz : nd.props.length = 0
        · have hpn : nd.props = [] := List.length_eq_zero_iff.1 hpz
          rw [hpz] at *
          have HPN := Lib.hid hpn
          clear hpn hpz
          go_wp2_with (at_builtin; refine wpList_append_zero rfl _ _ 61 rfl wr.heap.size 65 i0 2 Tryz.underlying61 hi (.slice (some ⟨wr.heap.size + 1, 0, none⟩) 0 0) 0 [] rfl (by exact row_empty (by simp) (by omega)) pa pc rfl ?_)
          go_meet
          refine ⟨_, rfl, (Holds.new wr _ _).alloc _, ?_, ((Below.refl _ _).alloc (Nat.le_refl _) _).alloc (by simp) _⟩
          rw [HPN.out]
          exact ⟨row_empty (by simp) (by omega), fun _ h => by cases h⟩
        · obtain ⟨pg, po, hpa, hpg, _, hpok, hpc, hpone⟩ := HPI.out.row (by omega)
          subst hpa
          have HPC := Lib.hid hpc
          have HPO := Lib.hid hpok
          clear hpc hpok hpone
          go_wp2_with (at_builtin; refine wpList_append_own _ rfl _ _ 61 rfl wr.heap.size 65 i0 (.agg #[.string ⟨#[]⟩, .string ⟨#[]⟩]) 2 32 Tryz.underlying61 hi hz0 hz1 hz2 rfl (by decide) (.slice (some ⟨wr.heap.size + 1, 0, none⟩) 0 0) 0 [] rfl (by exact row_empty (by simp) (by omega)) ⟨pg, po, none⟩ nd.props.length pc (propCells nd.props) rfl (propCells_len _) ?c1 ?c2 ?c3 ?c4 ?c5 ?_)
          case c1 => exact cells_below HPC.out hpg ((Below.refl _ _).alloc (Nat.le_refl _) _)
          case c2 => exact propCells_one _
          case c3 => unfold maxLen; omega
          case c4 => omega
          case c5 => simp; omega
          intro v' w5 hown' hgrow _
          have hN5 := (hN0.alloc (.cells #[] 65)).grown hgrow (fun e => by have : wr.heap.size + 1 = wr.heap.size := Option.some.inj e; omega)
          have hb5 := (hb0.alloc (by simp) (.cells #[] 65)).grown hgrow (by simp; omega) (fun q hq => by have : wr.heap.size + 1 = q := Option.some.inj hq; omega)
          clear hgrow n2 f2 l2
          obtain ⟨va, vc, rfl⟩ := row_slice hown'
          have n2 := hN5.cell 2
          have f2 := hN5.free 2
          have l2 := hN5.lt
          go_wp2_with fail
          go_meet
          exact ⟨_, rfl, hN5.set 2 _, ⟨row_set hown' hN5 (by decide) 2 _, HPO.out⟩, hb5.setCell (p := ⟨wr.heap.size, 2, none⟩) (Nat.le_refl _) _⟩
      case rest =>
        obtain ⟨pv, rfl, hN, hP, hb3⟩ := hcut
        clear hN0 hb0
        have hO3 := hO.keeps (Keeps.of_fresh hb3 (fun _ => False)) (fun e => e)
        have hZ3 := hZ.keeps (Keeps.of_fresh hb3 (fun _ => False)) (fun e => e)
        have hR3 := hR.low.new hb3
        have hb4 := hb.trans (hb3.mono hbs)
        have hs4 := hb4.size
        have hTl : (T.take k).length = k := by simp; omega
        generalize T.take k = T0 at *
        obtain ⟨pvs, g1, g2, g3, g4, g5⟩ := hR3
        have G5 := Lib.hid g5
        have G3 := Lib.hid g3; have G4 := Lib.hid g4; have G1 := Lib.hid g1
        have e1 : T0.length + 1 ≤ maxLen := by unfold maxLen; omega
        have e2 : (T0.length + 1) * 48 ≤ 140737488355328 := by omega
        clear g3 g4 g5 g1 hR hO hZ hTl
        obtain ⟨pa2, pc2, hpv⟩ := row_slice hP.1
        obtain ⟨xa, xc, rfl⟩ := row_slice g2
        have x0 := hO3.cell 0
        have xl := hO3.lt
        have m0 := hN.cell 0
        have m1 := hN.cell 1
        have m2 := hN.cell 2
        have ml := hN.lt
        obtain ⟨i0, hi, hz0, hz1, hz2⟩ := info_parts infoNd
        have HPV := Lib.hid hpv
        clear hpv
        go_wp2_with (at_builtin; refine wpList_append_own _ rfl _ _ 23 rfl w.heap.size 63 i0 (.agg #[.int .i64 0, .string ⟨#[]⟩, .slice none 0 0]) 3 48 Tryz.underlying23 hi hz0 hz1 hz2 rfl (by decide) _ T0.length (nodeCells T0 pvs) rfl (by exact World.ownsRow.alloc g2 _) ⟨wc.heap.size, 0, none⟩ 1 1 [.int .i64 nd.parent, .string nd.name, pv] rfl rfl ?d1 ?d2 ?d3 ?d4 ?d5 ?_)
        case d1 => exact new_cells _ _ _ _ rfl _ rfl
        case d2 =>
          intro u hu
          simp at hu
          rcases hu with rfl | rfl | rfl
          · rfl
          · rfl
          · rw [HPV.out]; rfl
        case d3 => exact e1
        case d4 => exact e2
        case d5 => simp; omega
        intro v' w6 hown' hgrow _
        have hO6 := (hO3.alloc (.cells #[.int .i64 nd.parent, .string nd.name, pv] 63)).grown hgrow (owns_ne_holds g2 hO3 (by decide))
        have hZ6 := (hZ3.alloc (.cells #[.int .i64 nd.parent, .string nd.name, pv] 63)).grown hgrow (owns_ne_holds g2 hZ3 (by decide))
        have hb6 := (hb4.alloc hs4 (.cells #[.int .i64 nd.parent, .string nd.name, pv] 63)).grown hgrow (by simp; omega) (fun g hg => (g2.lt g hg).1)
        have hal : Below wc.heap.size wc (wc.alloc (.cells #[.int .i64 nd.parent, .string nd.name, pv] 63)) := (Below.refl _ _).alloc (Nat.le_refl _) _
        have hR6 : TreeS w6 w.heap.size v' (T0 ++ [nd]) := TreeSep.more G1.out (World.ownsRow.alloc g2 _) (fun q hq hq2 => (G3.out q hq hq2).new hal) G4.out G5.out hbs (hP.new hal) HNK.out hown' hgrow
        obtain ⟨va, vc, rfl⟩ := row_slice hown'
        clear hgrow hown' x0 xl m0 m1 m2 ml
        have x0 := hO6.cell 0
        have xf := hO6.free 0
        have xl := hO6.lt
        go_wp2_with fail
        go_roundg (gk - 1)
        case measure => omega
        case rel => exact ⟨k + 1, _, by go_num, by omega, by omega, hO6.set 0 _, by rw [hTk.out]; exact hR6.set hO6 (by decide) (by decide) 0 _, hZ6.other _ _ (by show w.heap.size + 1 ≠ w.heap.size + 1 + 1; omega), hb6.setCell (p := ⟨w.heap.size + 1 + 1, 0, none⟩) (by simp; omega) _⟩
    · have hke : T.take k = T := List.take_of_length_le (by omega)
      rw [hke] at hR
      obtain ⟨va, vc, hv⟩ := hR.row.slice
      subst hv
      have hS : BentS B b (w.heap.size + 1 + 1) (w.heap.size + 1) (.slice va T.length vc) T w wr := ⟨HTP.out.keeps (Keeps.of_fresh hb (fun _ => False)) (fun _ e => e.elim), hO, hZ, hR, Keeps.of_fresh hb _, hblt, by omega, by omega⟩
      have HS := Lib.hid hS
      have x0 := hO.cell 0
      have xl := hO.lt
      have z0 := hZ.cell 0
      have zf := hZ.free 0
      have zl := hZ.lt
      clear hke hS hR hf hk
      by_cases hT0 : T.length = 0
      · have hT1 : T = [] := List.length_eq_zero_iff.1 hT0
        have hz : ((T.length : Int) == 0) = true := by rw [hT0]; rfl
        have q0 := (hZ.set 0 (.slice va T.length vc)).cell 0
        have hR2 := HS.out.2.2.2.1.row.set hZ (by decide) (by decide) 0 (.slice va T.length vc)
        have hT2 : Tape B (wr.setCell ⟨w.heap.size + 1, 0, none⟩ (.slice va T.length vc)) b := HS.out.1.keeps ((Keeps.refl (fun i => i = w.heap.size + 1) wr).setCell (p := ⟨w.heap.size + 1, 0, none⟩) (.inr rfl) _) (fun i e => by have := HTP.out.1; subst e; omega)
        have hK2 : Keeps (fun i => i = b) w (wr.setCell ⟨w.heap.size + 1, 0, none⟩ (.slice va T.length vc)) := HS.out.2.2.2.2.1.setCell (p := ⟨w.heap.size + 1, 0, none⟩) (.inl (by simp)) _
        have HF := Lib.hid (And.intro q0 (And.intro hR2 (And.intro hT2 hK2)))
        have hTl := Lib.hid (show T.length ≤ N ∧ ∀ n ∈ T, n.props.length ≤ M from ⟨by omega, fun n hn => by have := HM.out n hn; omega⟩)
        clear hT0 q0 hR2 hT2 hK2 hO hZ hT1
        go_wp2_with fail
        obtain ⟨q0, hR2, hT2, hK2⟩ := HF.out
        exact bodyPost_ret (v := .agg #[.slice va T.length vc]) (by simp [results, Tryz.results13, go_sem, q0]) rfl ⟨_, T, rfl, hR2, hTl.out.1, hTl.out.2, hT2, hK2⟩
      · have hz : ((T.length : Int) == 0) = false := by rw [beq_eq_false_iff_ne]; omega
        go_wp2_with fail
        refine (mk_N B b T.length _ (by exact HS.out.1) (by omega) (by omega)).mono ?_
        rintro e w1 ⟨k, rfl, k0, k1, hT1, hK1⟩
        have HS1 := Lib.hid (HS.out.call hT1 hK1)
        obtain ⟨k, rfl⟩ := Int.eq_ofNat_of_zero_le k0
        have hk : k < T.length := by omega
        obtain ⟨g, vc', hge, hg1, hg2⟩ : ∃ g c, Value.slice va T.length vc = .slice (some ⟨g, 0, none⟩) T.length c ∧ w.heap.size ≤ g ∧ g < wr.heap.size := by
          obtain ⟨_, _, _, ⟨_, pvs, q1, q2, _⟩, _⟩ := HS.out
          exact q2.form (by omega)
        cases hge
        clear HS x0 xl z0 zf zl hO hZ
        have x0 := HS1.out.2.1.cell 0
        have xl := HS1.out.2.1.lt
        go_wp2_with fail
        refine (mk_N B b 9 _ (by exact HS1.out.1) (by omega) (by omega)).mono ?_
        rintro e w2 ⟨c, rfl, c0, c1, hT2, hK2⟩
        have HS2 := Lib.hid (HS1.out.call hT2 hK2)
        clear HS1 x0 xl
        go_upto_block 2 with fail
        go_cut [10] (fun y wx => BentM B b (w.heap.size + 1 + 1) (w.heap.size + 1) N M w y wx)
        case first =>
          have hcs : c = 0 ∨ c = 1 ∨ c = 2 ∨ c = 3 ∨ c = 4 ∨ c = 5 ∨ c = 6 ∨ c = 7 ∨ c = 8 := by omega
          clear c0 c1
          rcases hcs with rfl | rfl | rfl | rfl | rfl | rfl | rfl | rfl | rfl
          · obtain ⟨n0, n1, f0, f1, hgl⟩ := HS2.out.cells hk
            go_wp2_with fail
            have hH := Holds.new w2 (([-1, 0, (k : Int), (k : Int) - 1, 200] : List Int).map (Value.int .i64)).toArray 3
            refine (mk_Pick B b w2.heap.size 0 5 [-1, 0, (k : Int), (k : Int) - 1, 200] _ (by exact HS2.out.1.new ((Below.refl _ _).alloc (Nat.le_refl _) _)) (by simp) (by simp) (by have := HS2.out.1.lt; omega) (fun i hi => row_cell hH i hi)).mono ?_
            rintro e w3 ⟨r, rfl, hr, hT3, hK3⟩
            have HS3 := Lib.hid ((HS2.out.new ((Below.refl _ _).alloc (Nat.le_refl _) (.cells (([-1, 0, (k : Int), (k : Int) - 1, 200] : List Int).map (Value.int .i64)).toArray 3))).call hT3 hK3)
            have hrb : -9223372036854775808 ≤ r ∧ r ≤ 9223372036854775807 := by simp at hr; omega
            clear n0 n1 f0 f1 hgl hH hT3 hK3 hT2 hK2 hT1 hK1 hr
            obtain ⟨n0, n1, f0, f1, hgl⟩ := HS3.out.cells hk
            have hE := Lib.hid (HS3.out.parent (N := N) (M := M) hk (by omega) (fun n hn => by have := HM.out n hn; omega) r hrb)
            go_wp2_with fail
            go_meet
            exact hE.out
          · obtain ⟨n0, n1, f0, f1, hgl⟩ := HS2.out.cells hk
            go_wp2_with fail
            refine (mk_N B b 8 _ (by exact HS2.out.1.new ((Below.refl _ _).alloc (Nat.le_refl _) _)) (by omega) (by omega)).mono ?_
            rintro e w3 ⟨q, rfl, q0, q1, hT3, hK3⟩
            obtain ⟨q, rfl⟩ := Int.eq_ofNat_of_zero_le q0
            obtain ⟨s, hs1, hsm⟩ := pick_one lBentN q (by have : lBentN.length = 8 := rfl; omega)
            have HS3 := Lib.hid ((HS2.out.new ((Below.refl _ _).alloc (Nat.le_refl _) (.cells (lBentN.map Value.string).toArray 9))).call hT3 hK3)
            have hH := (Holds.new w2 (lBentN.map Value.string).toArray 9).keeps hK3 (by have := HS2.out.1.lt; omega)
            have hc : w3.cell? ⟨w2.heap.size, q, none⟩ = some (.string s) := (hH.cell q).trans (by simp [hs1])
            have hcl := hH.lt
            clear n0 n1 f0 f1 hgl hH hT3 hK3 hT2 hK2 hT1 hK1
            obtain ⟨n0, n1, f0, f1, hgl⟩ := HS3.out.cells hk
            have hE := Lib.hid (HS3.out.name (N := N) (M := M) hk (by omega) (fun n hn => by have := HM.out n hn; omega) s (name_small hsm))
            go_wp2_with fail
            go_meet
            exact hE.out
          · go_wp2_with fail
            refine wp_code (c' := bentR 19) (by kernel_rfl) ?_
            refine bent_r19 B b _ _ N M g vc k T w _ hk (by omega) (by omega) HM.out (by omega) HS2 ?_
            refine Lib.hid ?_
            intro y74 y75 y76 y77 y78 y79 y80 y81 y82 y83 y84 y85 wx hE
            go_wp2_with fail
            go_meet
            exact hE
          · go_wp2_with fail
            refine wp_code (c' := bentR 21) (by kernel_rfl) ?_
            refine bent_r21 B b _ _ N M g vc k T w _ hk (by omega) (by omega) HM.out (by omega) HS2 ?_
            refine Lib.hid ?_
            intro y88 y89 y90 y91 y92 y93 y94 y95 y96 y97 y98 y99 y100 y101 y102 wx hE
            go_wp2_with fail
            go_meet
            exact hE
          · go_wp2_with fail
            refine wp_code (c' := bentR 23) (by kernel_rfl) ?_
            refine bent_r23 B b _ _ N M g vc k T w _ hk (by omega) (by omega) HM.out (by omega) HS2 ?_
            refine Lib.hid ?_
            intro y105 y106 y107 y108 y109 y110 y111 y112 y113 y114 wx hE
            go_wp2_with fail
            go_meet
            exact hE
          · obtain ⟨xs, hxs, hZ0, hZl, hW2⟩ : ∃ xs, w2.ownsRow w.heap.size 63 3 (.slice (some ⟨g, 0, none⟩) T.length vc) T.length xs ∧ w2.cell? ⟨w.heap.size + 1 + 1, 0, none⟩ = some (.slice (some ⟨g, 0, none⟩) T.length vc) ∧ w.heap.size + 1 + 1 < w2.heap.size ∧ w.heap.size ≤ w2.heap.size := by
              obtain ⟨_, h2, _, ⟨_, pvs, q1, q2, _⟩, h5, _⟩ := HS2.out
              exact ⟨_, q2, h2.cell 0, h2.lt, h5.size⟩
            obtain ⟨i0, hi, hz0, hz1, hz2⟩ := info_parts infoNd
            have e1 : T.length + 1 ≤ maxLen := by unfold maxLen; omega
            have HX := Lib.hid hxs
            clear hxs
            go_wp2_with (at_builtin; refine wpList_append_own _ rfl _ _ 23 rfl w.heap.size 63 i0 (.agg #[.int .i64 0, .string ⟨#[]⟩, .slice none 0 0]) 3 48 Tryz.underlying23 hi hz0 hz1 hz2 rfl (by decide) _ T.length xs rfl (by exact World.ownsRow.alloc HX.out _) ⟨w2.heap.size, 0, none⟩ 1 1 [.int .i64 k, .string ⟨#[122, 122]⟩, .slice none 0 0] rfl rfl (by exact new_cells _ _ _ _ rfl _ rfl) (by intro u hu; simp at hu; rcases hu with rfl | rfl | rfl <;> rfl) e1 (by omega) (by simp; omega) ?_)
            intro v' w5 hown' hgrow _
            obtain ⟨m0, m1, m2, hE⟩ := HS2.out.node (nd := ⟨k, ⟨#[122, 122]⟩, []⟩) (N := N) (M := M) rfl (by omega) (fun n hn => by have := HM.out n hn; omega) (by simp) (PropRow.nil _ _) ⟨by show (⟨#[122, 122]⟩ : ByteArray).size ≤ _; decide, by show _ ≤ (k : Int); omega, by show (k : Int) ≤ _; omega⟩ HX.out hown' hgrow
            obtain ⟨va, vc2, rfl⟩ := row_slice hown'
            have HE := Lib.hid hE
            clear hown' hgrow hE HX
            go_wp2_with fail
            go_meet
            exact HE.out
          · go_wp2_with fail
            have hH := Holds.new w2 (([256, 257] : List Int).map (Value.int .i64)).toArray 3
            refine (mk_Pick B b w2.heap.size 0 2 [256, 257] _ (by exact HS2.out.1.new ((Below.refl _ _).alloc (Nat.le_refl _) _)) (by simp) (by simp) (by have := HS2.out.1.lt; omega) (fun i hi => row_cell hH i hi)).mono ?_
            rintro e w3 ⟨r, rfl, hr, hT3, hK3⟩
            have HS3 := Lib.hid ((HS2.out.new ((Below.refl _ _).alloc (Nat.le_refl _) (.cells (([256, 257] : List Int).map (Value.int .i64)).toArray 3))).call hT3 hK3)
            obtain ⟨n, rfl, hn1, hn2⟩ : ∃ n : Nat, r = (n : Int) ∧ 1 ≤ n ∧ n ≤ 257 := by
              simp at hr
              rcases hr with rfl | rfl
              · exact ⟨256, rfl, by omega, by omega⟩
              · exact ⟨257, rfl, by omega, by omega⟩
            have hmk := bent_bytes n (by omega)
            have HS4 := Lib.hid (HS3.out.new ((Below.refl _ _).alloc (Nat.le_refl _) (.cells (Array.replicate n (.int .u8 0)) 5)))
            have hbr := bytes_made w3 n w.heap.size HS3.out.2.2.2.2.1.size hn2
            clear hH hT3 hK3 hT2 hK2 hT1 hK1 hr
            go_wp2_with fail
            refine wp_code (c' := bentR 28) (by kernel_rfl) ?_
            obtain ⟨acc, hacc, hbr⟩ := hbr
            subst hacc
            refine bent_r28 B b _ _ N M g vc k T w _ hk (by omega) (by omega) HM.out (by omega) (some ⟨w3.heap.size, 0, none⟩) acc.length acc (by omega) hbr HS4 ?_
            refine Lib.hid ?_
            intro y130 y131 y132 y133 y134 y135 y136 y137 y138 y139 y140 y141 wx hE
            go_wp2_with fail
            go_meet
            exact hE
          · obtain ⟨pa, pc, c0⟩ := HS2.out.props hk
            have hgl := (HS2.out.cells hk).2.2.2.2
            by_cases hlp : 1 < T[k].props.length
            · have hlp' : (1 : Int) < (T[k].props.length : Int) := by omega
              go_wp2_with fail
              refine wp_code (c' := bentR 31) (by kernel_rfl) ?_
              refine bent_r31 B b _ _ N M g vc k T w _ hk (by omega) (by omega) HM.out (by omega) hlp HS2 ?_
              refine Lib.hid ?_
              intro y150 y151 y152 y153 y154 y155 y156 y157 y158 y159 y160 y161 y162 y163 y164 y165 y166 y167 y168 y169 y170 y171 wx hE
              go_wp2_with fail
              go_meet
              exact hE
            · have hlp' : ¬ (1 : Int) < (T[k].props.length : Int) := by omega
              have hE := Lib.hid (HS2.out.ends (N := N) (M := M) (by omega) (fun n hn => by have := HM.out n hn; omega))
              go_wp2_with fail
              go_meet
              exact hE.out
          · have x0 := HS2.out.2.1.cell 0
            have xf := HS2.out.2.1.free 0
            have xl := HS2.out.2.1.lt
            have hE := Lib.hid (HS2.out.cut (N := N) (M := M) (k := k) (by omega) (by omega) (fun n hn => by have := HM.out n hn; omega))
            have hvc : k ≤ vc := by
              obtain ⟨_, _, _, ⟨_, pvs, q1, q2, _⟩, _⟩ := HS2.out
              rcases q2.2 with ⟨e, _⟩ | ⟨_, _, _, e, _, _, hc, _⟩
              · cases e
              · cases e; omega
            go_wp2_with fail
            go_meet
            exact hE.out
        case rest =>
          obtain ⟨a', c', T', e1, e2, e3, e4, e5, e6, e7⟩ : BentE B b (w.heap.size + 1 + 1) (w.heap.size + 1) N M w wc := hcut
          have x0 := e1.cell 0
          have xl := e1.lt
          have z0 := e2.cell 0
          have zf := e2.free 0
          have zl := e2.lt
          have q0 := (e2.set 0 (.slice a' T'.length c')).cell 0
          have hR2 := e3.set e2 (by decide) (by decide) 0 (.slice a' T'.length c')
          have hT3 : Tape B (wc.setCell ⟨w.heap.size + 1, 0, none⟩ (.slice a' T'.length c')) b := e6.keeps ((Keeps.refl (fun i => i = w.heap.size + 1) wc).setCell (p := ⟨w.heap.size + 1, 0, none⟩) (.inr rfl) _) (fun i e => by have := HTP.out.1; subst e; omega)
          have hK3 : Keeps (fun i => i = b) w (wc.setCell ⟨w.heap.size + 1, 0, none⟩ (.slice a' T'.length c')) := e7.setCell (p := ⟨w.heap.size + 1, 0, none⟩) (.inl (by simp)) _
          have HF := Lib.hid (And.intro q0 (And.intro hR2 (And.intro hT3 (And.intro hK3 (And.intro e4 e5)))))
          clear q0 hR2 hT3 hK3 e1 e2 e3 e4 e5 e6 e7 HS2
          go_wp2_with fail
          obtain ⟨q0, hR2, hT3, hK3, e4, e5⟩ := HF.out
          exact bodyPost_ret (v := .agg #[.slice a' T'.length c']) (by simp [results, Tryz.results13, go_sem, q0]) rfl ⟨_, T', rfl, hR2, e4, e5, hT3, hK3⟩
end Go.Proofs.YthkoaakicdhnpaaGreat

namespace Go.Proofs.YthkoaakicdhnpaaGreat
open Go.RowKit

/-- A bent tree. -/
def BentV (b N M : Nat) (u : Value) (w : World) : Prop := ∃ a c D, u = .agg #[.slice a (List.length D) c] ∧ NodesIn (fun g => g ≠ b) w (.slice a (List.length D) c) D ∧ List.length D ≤ N ∧ ∀ n ∈ D, n.props.length ≤ M
/-- A list of some trees. -/
def TreesF (b k : Nat) (u : Value) (w : World) : Prop := ∃ g, u = .slice (some ⟨g, 0, none⟩) k k ∧ g ≠ b ∧ ∀ j : Nat, j < k → ∃ a c X, w.cell? ⟨g, j, none⟩ = some (.slice a (List.length X) c) ∧ NodesIn (fun g => g ≠ b) w (.slice a (List.length X) c) X
theorem BentV.keep {b N M : Nat} {u : Value} {w w' : World} (h : BentV b N M u w) (k : Keeps (fun i => i = b) w w') : BentV b N M u w' := by
  obtain ⟨a, c, D, h1, h2, h3⟩ := h
  exact ⟨a, c, D, h1, h2.keeps k (fun _ h e => h e), h3⟩
theorem TreesF.keep {b n : Nat} {u : Value} {w w' : World} (h : TreesF b n u w) (k : Keeps (fun i => i = b) w w') : TreesF b n u w' := by
  obtain ⟨g, h1, h2, h3⟩ := h
  refine ⟨g, h1, h2, fun j hj => ?_⟩
  obtain ⟨a, c, X, h4, h5⟩ := h3 j hj
  exact ⟨a, c, X, (k.cell (p := ⟨g, j, none⟩) (World.block_lt_of_cell? w _ h4) h2).trans h4, h5.keeps k (fun _ h e => h e)⟩
noncomputable def blaOps (n : Nat) : Array Oper := (regOps (Tryz.f3.body.getD .skip) n).getD #[]
theorem blaR : inRow2 .any (blaOps 7) = true := by kernel_rfl
theorem blaRa : apartB (blaOps 7) = true := by kernel_rfl
theorem blaRn : (blaOps 7).size = 9 := by kernel_rfl
def BlaF (b N M : Nat) (xa : Option Addr) (xc : Nat) (X : List NodeT) (aa : Option Addr) (ac : Nat) (A : List NodeT) (oa : Option Addr) (oc : Nat) (O : List NodeT) (j : Nat) : Value → World → Prop := match j with
  | 0 => fun u _ => u = .agg #[.slice xa X.length xc]
  | 1 => fun u _ => u = .agg #[.slice aa A.length ac]
  | 2 => fun u _ => u = .agg #[.slice oa O.length oc]
  | 3 => fun u _ => u = .pointer (some ⟨b, 0, none⟩)
  | 4 => fun u _ => u = .agg #[.slice aa A.length ac]
  | 5 => fun u w => BentV b (N + 1) (M + 1) u w
  | 6 => fun u w => TreesF b 4 u w
  | 7 => fun u _ => u = .int .i64 4
  | 8 => fun u _ => u = .int .i64 0
  | _ => fun _ _ => True
theorem BlaF.keep {b N M : Nat} {xa : Option Addr} {xc : Nat} {X : List NodeT} {aa : Option Addr} {ac : Nat} {A : List NodeT} {oa : Option Addr} {oc : Nat} {O : List NodeT} {j : Nat} {u : Value} {w w' : World} (h : BlaF b N M xa xc X aa ac A oa oc O j u w) (k : Keeps (fun i => i = b) w w') : BlaF b N M xa xc X aa ac A oa oc O j u w' := by
  unfold BlaF at *
  split at h
  all_goals first
    | exact h
    | exact BentV.keep h k
    | exact TreesF.keep h k

set_option maxHeartbeats 4000000 in
set_option maxRecDepth 100000 in
theorem bla_region {Q : Exit → Act → World → Prop} (B b N M Xb Ab Ob : Nat) (xa : Option Addr) (xc : Nat) (X : List NodeT) (aa : Option Addr) (ac : Nat) (A : List NodeT) (oa : Option Addr) (oc : Nat) (O : List NodeT) (W w : World) (Ac : Act) (hsz : Ac.tmps.size = 234) (hAl : A.length ≤ N) (hAm : ∀ n ∈ A, n.props.length ≤ M) (hN : N ≤ 800) (hM : M ≤ 800)
    (hXW : Holds W Xb #[.slice xa X.length xc] 25) (hAW : Holds W Ab #[.slice aa A.length ac] 25) (hOW : Holds W Ob #[.slice oa O.length oc] 25) (hob : Ob ≠ b) (hON : NodesIn (fun g => g ≠ b) W (.slice oa O.length oc) O) (ao : Ac.tmps.getD 12 undef = .pointer (some ⟨Ob, 0, none⟩)) (hxb : Xb ≠ b) (hab : Ab ≠ b) (hXN : NodesIn (fun g => g ≠ b) W (.slice xa X.length xc) X) (hAN : NodesIn (fun g => g ≠ b) W (.slice aa A.length ac) A)
    (ax : Ac.tmps.getD 5 undef = .pointer (some ⟨Xb, 0, none⟩)) (aa' : Ac.tmps.getD 10 undef = .pointer (some ⟨Ab, 0, none⟩)) (at_ : Ac.tmps.getD 9 undef = .pointer (some ⟨b, 0, none⟩))
    (hS : Tape B w b ∧ Keeps (fun i => i = b) W w)
    (hQ : ∀ c w', SameBut (blaOps 7) Ac c → Tape B w' b → Keeps (fun i => i = b) W w' → TreesF b 4 (c.tmps.getD 87 undef) w' → c.tmps.getD 88 undef = .int .i64 4 → c.tmps.getD 89 undef = .int .i64 0 → Q .normal c w') :
    wpAny Tryz.prog .any (blaOps 7) Q (blaOps 7).size (Array.replicate (blaOps 7).size false) Ac w := by
  refine wpAny_inv2 (fun l c wx => RInv (blaOps 7) Ac (BlaF b N M xa xc X aa ac A oa oc O) (fun wx => Tape B wx b ∧ Keeps (fun i => i = b) W wx) l c wx) blaR ?hend ?hstep _ _ _ _ (by simp) (by simp) (RInv.start hS)
  case hend =>
    intro l c wx hI hl
    have hh : ∀ k, k < 9 → l.getD k false = true := fun k hk => hl k (by rw [blaRn]; exact hk)
    exact hQ c wx hI.1 hI.2.1.1 hI.2.1.2 (hI.fact 6 87 rfl (hh 6 (by decide))) (hI.fact 7 88 rfl (hh 7 (by decide))) (hI.fact 8 89 rfl (hh 8 (by decide)))
  intro l c wx hI i' op ho _ hall K' hK'
  have hi : i' < 9 := by rw [← blaRn]; exact (Array.getElem?_eq_some_iff.1 ho).1
  simp only [blaOps, regOps, Tryz.f3, Option.getD_some, reduceIte, Nat.reduceEqDiff] at ho
  have hS := hI.2.1
  have sx := (hI.slot 5 (by kernel_rfl)).trans ax
  have sa := (hI.slot 10 (by kernel_rfl)).trans aa'
  have so := (hI.slot 12 (by kernel_rfl)).trans ao
  have st := (hI.slot 9 (by kernel_rfl)).trans at_
  simp only [Array.getD_eq_getD_getElem?] at sx sa so st
  have hic : i' = 0 ∨ i' = 1 ∨ i' = 2 ∨ i' = 3 ∨ i' = 4 ∨ i' = 5 ∨ i' = 6 ∨ i' = 7 ∨ i' = 8 := by omega
  rcases hic with rfl | rfl | rfl | rfl | rfl | rfl | rfl | rfl | rfl
  all_goals cases ho
  · have c0 := (hXW.keeps hS.2 hxb).cell 0
    have cl := (hXW.keeps hS.2 hxb).lt
    go_simp
    exact hK' _ _ (hI.step blaRa 0 81 rfl (by rw [hsz]; decide) _ _ rfl hall hS (fun _ _ h => h) rfl)
  · have c0 := (hAW.keeps hS.2 hab).cell 0
    have cl := (hAW.keeps hS.2 hab).lt
    go_simp
    exact hK' _ _ (hI.step blaRa 1 82 rfl (by rw [hsz]; decide) _ _ rfl hall hS (fun _ _ h => h) rfl)
  · have c0 := (hOW.keeps hS.2 hob).cell 0
    have cl := (hOW.keeps hS.2 hob).lt
    go_simp
    exact hK' _ _ (hI.step blaRa 2 83 rfl (by rw [hsz]; decide) _ _ rfl hall hS (fun _ _ h => h) rfl)
  · go_simp
    exact hK' _ _ (hI.step blaRa 3 84 rfl (by rw [hsz]; decide) _ _ rfl hall hS (fun _ _ h => h) rfl)
  · have c0 := (hAW.keeps hS.2 hab).cell 0
    have cl := (hAW.keeps hS.2 hab).lt
    go_simp
    exact hK' _ _ (hI.step blaRa 4 85 rfl (by rw [hsz]; decide) _ _ rfl hall hS (fun _ _ h => h) rfl)
  · have e1 : (c.tmps.getD 84 undef) = .pointer (some ⟨b, 0, none⟩) := hI.fact 3 84 rfl (listed hall 3 (by kernel_rfl))
    simp only [Array.getD_eq_getD_getElem?] at e1
    have e2 : (c.tmps.getD 85 undef) = .agg #[.slice aa A.length ac] := hI.fact 4 85 rfl (listed hall 4 (by kernel_rfl))
    simp only [Array.getD_eq_getD_getElem?] at e2
    go_simp
    refine (grow_Bent B b (N + 1) (M + 1) (fun g => g ≠ b) _ A wx hS.1 (hAN.keeps hS.2 (fun _ h e => h e)) (by omega) (by omega) (fun n hn => by have := hAm n hn; omega) (by omega)).mono ?_
    rintro e w2 ⟨v2, D, rfl, hr2, hl2, hm2, ht2, k2⟩
    obtain ⟨da, dc, rfl⟩ := tree_slice hr2
    go_simp
    have hS2 : Tape B w2 b ∧ Keeps (fun i => i = b) W w2 := ⟨ht2, hS.2.trans k2 (fun _ _ e => e)⟩
    have hbl := hS.1.lt
    exact hK' _ _ (hI.step blaRa 5 86 rfl (by rw [hsz]; decide) _ _ rfl hall hS2 (fun _ _ h => BlaF.keep h k2) ⟨da, dc, D, rfl, hr2.in.mono (fun g h e => by subst e; omega), hl2, hm2⟩)
  · have e0 : (c.tmps.getD 81 undef) = .agg #[.slice xa X.length xc] := hI.fact 0 81 rfl (listed hall 0 (by kernel_rfl))
    simp only [Array.getD_eq_getD_getElem?] at e0
    have e1 : (c.tmps.getD 82 undef) = .agg #[.slice aa A.length ac] := hI.fact 1 82 rfl (listed hall 1 (by kernel_rfl))
    simp only [Array.getD_eq_getD_getElem?] at e1
    have e2 : (c.tmps.getD 83 undef) = .agg #[.slice oa O.length oc] := hI.fact 2 83 rfl (listed hall 2 (by kernel_rfl))
    simp only [Array.getD_eq_getD_getElem?] at e2
    obtain ⟨ba5, bc5, D5, e3, hn5, hl5, hm5⟩ : BentV b (N + 1) (M + 1) (c.tmps.getD 86 undef) wx := hI.fact 5 86 rfl (listed hall 5 (by kernel_rfl))
    simp only [Array.getD_eq_getD_getElem?] at e3
    go_simp
    have hb2 : Below wx.heap.size wx (wx.alloc (.cells #[.slice xa X.length xc, .slice aa A.length ac, .slice oa O.length oc, .slice ba5 D5.length bc5] 25)) := (Below.refl _ _).alloc (Nat.le_refl _) _
    have k2 := Keeps.of_fresh hb2 (fun i => i = b)
    have hS2 : Tape B (wx.alloc (.cells #[.slice xa X.length xc, .slice aa A.length ac, .slice oa O.length oc, .slice ba5 D5.length bc5] 25)) b ∧ Keeps (fun i => i = b) W (wx.alloc (.cells #[.slice xa X.length xc, .slice aa A.length ac, .slice oa O.length oc, .slice ba5 D5.length bc5] 25)) := ⟨hS.1.new hb2, hS.2.trans k2 (fun _ _ e => e)⟩
    have hL := Holds.new wx #[.slice xa X.length xc, .slice aa A.length ac, .slice oa O.length oc, .slice ba5 D5.length bc5] 25
    have hbl := hS.1.lt
    have hT : TreesF b 4 (.slice (some ⟨wx.heap.size, 0, none⟩) 4 4) (wx.alloc (.cells #[.slice xa X.length xc, .slice aa A.length ac, .slice oa O.length oc, .slice ba5 D5.length bc5] 25)) := ⟨wx.heap.size, rfl, by omega, fun j hj => by
      have hj2 : j = 0 ∨ j = 1 ∨ j = 2 ∨ j = 3 := by omega
      rcases hj2 with rfl | rfl | rfl | rfl
      · exact ⟨_, _, _, hL.cell 0, hXN.keeps hS2.2 (fun _ h e => h e)⟩
      · exact ⟨_, _, _, hL.cell 1, hAN.keeps hS2.2 (fun _ h e => h e)⟩
      · exact ⟨_, _, _, hL.cell 2, hON.keeps hS2.2 (fun _ h e => h e)⟩
      · exact ⟨_, _, _, hL.cell 3, hn5.keeps k2 (fun _ h e => h e)⟩⟩
    exact hK' _ _ (hI.step blaRa 6 87 rfl (by rw [hsz]; decide) _ _ rfl hall hS2 (fun _ _ h => BlaF.keep h k2) hT)
  · obtain ⟨lg6, e0, hg6⟩ : TreesF b 4 (c.tmps.getD 87 undef) wx := hI.fact 6 87 rfl (listed hall 6 (by kernel_rfl))
    simp only [Array.getD_eq_getD_getElem?] at e0
    go_simp
    exact hK' _ _ (hI.step blaRa 7 88 rfl (by rw [hsz]; decide) _ _ rfl hall hS (fun _ _ h => h) rfl)
  · go_simp
    exact hK' _ _ (hI.step blaRa 8 89 rfl (by rw [hsz]; decide) _ _ rfl hall hS (fun _ _ h => h) rfl)
end Go.Proofs.YthkoaakicdhnpaaGreat

namespace Go.Proofs.YthkoaakicdhnpaaGreat
open Go.RowKit

noncomputable def busBlk (n : Nat) : Code := (blkOf (Tryz.f7.body.getD .skip) n).getD .skip
noncomputable def busIf (n : Nat) : Code := (ifOf (Tryz.f7.body.getD .skip) n).getD .skip
theorem BusS.drew {B b base Z n gA gS : Nat} {W w : World} (h : BusS B b base Z n gA gS W w) (hne : Z ≠ b) : BusS B b base Z n gA gS W w.drew := h.call hne ((Keeps.refl _ w).drew) (h.1.keeps ((Keeps.refl (fun _ => False) w).drew) (fun _ e => e.elim))
theorem BusS.new {B b base Z n gA gS : Nat} {W w w' : World} (h : BusS B b base Z n gA gS W w) (hne : Z ≠ b) (k : Below w.heap.size w w') : BusS B b base Z n gA gS W w' := h.call hne (Keeps.of_fresh k _) (h.1.new k)
theorem TreeRow.apartInt {w : World} {base g : Nat} {v : Value} {T : List NodeT} {cs : Array Value} (h : TreeRow w base v T) (hH : Holds w g cs 3) (o : Nat) (x : Value) : TreeRow (w.setCell ⟨g, o, none⟩ x) base v T := h.set hH (by decide) (by decide) o x
/-- Storing into a row of numbers. -/
theorem RowAt.put {g g2 k : Nat} {n : Nat} {w : World} {l2 : List Int} (h : RowAt g (Ones n) w) (h2 : Holds w g2 (l2.map (Value.int .i64)).toArray 3) (_hl : Ones n l2) (x : Int) (hx : x = 0 ∨ x = 1 ∨ x = 2) : RowAt g (Ones n) (w.setCell ⟨g2, k, none⟩ (.int .i64 x)) := by
  have hset : ∀ l : List Int, ((l.map (Value.int .i64)).toArray).setIfInBounds k (.int .i64 x) = ((l.set k x).map (Value.int .i64)).toArray := by
    intro l; simp [List.map_set]
  have hone : ∀ l : List Int, Ones n l → Ones n (l.set k x) := by
    intro l ⟨h1, h3⟩
    refine ⟨by simpa using h1, fun y hy => ?_⟩
    rcases List.mem_or_eq_of_mem_set hy with hy | rfl
    · exact h3 y hy
    · exact hx
  obtain ⟨l, hH, hp⟩ := h
  by_cases e : g = g2
  · subst e
    refine ⟨l.set k x, ?_, hone l hp⟩
    rw [← hset]; exact hH.set k _
  · exact ⟨l, hH.other _ _ e, hp⟩
theorem BusS.put {B b base Z n gA gS g k : Nat} {W w : World} {l2 : List Int} (h : BusS B b base Z n gA gS W w) (_hne : Z ≠ b) (h2 : Holds w g (l2.map (Value.int .i64)).toArray 3) (hl : Ones n l2) (hW : W.heap.size ≤ g) (x : Int) (hx : x = 0 ∨ x = 1 ∨ x = 2) (hBg : B ≤ g) :
    BusS B b base Z n gA gS W (w.setCell ⟨g, k, none⟩ (.int .i64 x)) := by
  obtain ⟨hT, ⟨v, T, hZ, hr, hs, hlen⟩, hA, hS, hk⟩ := h
  have hgb : g ≠ b := row_ne_tape h2 hT
  have hgZ : Z ≠ g := by
    rintro rfl
    have := h2.symm.trans hZ
    injection this with this; injection this with _ this; exact absurd this (by decide)
  have k1 : Keeps (· = g) w (w.setCell ⟨g, k, none⟩ (.int .i64 x)) := (Keeps.refl (· = g) w).setCell (p := ⟨g, k, none⟩) (Or.inr rfl) _
  refine ⟨hT.keeps k1 (fun i e => by subst e; exact ⟨hBg, hgb⟩), ⟨v, T, hZ.other _ _ hgZ, hr.apartInt h2 k _, hs, hlen⟩, hA.put h2 hl x hx, hS.put h2 hl x hx, ?_⟩
  exact hk.setCell (p := ⟨g, k, none⟩) (Or.inl hW) _
theorem BusS.var {B b base Z n gA gS : Nat} {W w : World} (h : BusS B b base Z n gA gS W w) : ∃ va vc T, Holds w Z #[.slice va n vc] 25 ∧ TreeRow w base (.slice va n vc) T ∧ ShapeB T ∧ Hid (T.length = n) := by
  obtain ⟨_, ⟨v, T, hZ, hr, hs, rfl⟩, _⟩ := h
  obtain ⟨va, vc, rfl⟩ := hr.slice
  exact ⟨va, vc, T, hZ, hr, hs, Lib.hid rfl⟩
theorem RowAt.zeros {w : World} {g n : Nat} (h : Holds w g (Array.replicate n (.int .i64 0)) 3) : RowAt g (Ones n) w :=
  ⟨List.replicate n 0, by rw [List.map_replicate, List.toArray_replicate]; exact h, by simp, fun x hx => Or.inl (List.mem_replicate.1 hx).2⟩
theorem BusS.begin {B b base Z : Nat} {W w : World} {v : Value} {T : List NodeT} (hZb : Z ≠ b) (hT : Tape B w b) (hZ : Holds w Z #[v] 25) (hr : TreeRow w base v T) (hs : ShapeB T) (hk : Keeps (fun i => i = b ∨ i = Z) W w)
    {gA gS : Nat} (hA : gA = w.heap.size ∧ gS = w.heap.size + 1 ∨ gA = w.heap.size + 1 ∧ gS = w.heap.size) :
    W.heap.size ≤ gA ∧ W.heap.size ≤ gS ∧ B ≤ gA ∧ B ≤ gS ∧ BusS B b base Z T.length gA gS W ((w.alloc (.cells (Array.replicate T.length (.int .i64 0)) 3)).alloc (.cells (Array.replicate T.length (.int .i64 0)) 3)).drew := by
  have hW := hk.size
  have hBb := hT.lt
  have hBl := hT.1
  have hb2 : Below w.heap.size w ((w.alloc (.cells (Array.replicate T.length (.int .i64 0)) 3)).alloc (.cells (Array.replicate T.length (.int .i64 0)) 3)) := ((Below.refl _ _).alloc (Nat.le_refl _) _).alloc (by simp) _
  have h1 := (Holds.new w (Array.replicate T.length (.int .i64 0)) 3).alloc (.cells (Array.replicate T.length (.int .i64 0)) 3)
  have h2 := Holds.newAt (w := w.alloc (.cells (Array.replicate T.length (.int .i64 0)) 3)) (B := w.heap.size + 1) (by simp) (Array.replicate T.length (.int .i64 0)) 3
  refine ⟨by omega, by omega, by omega, by omega, ?_⟩
  refine BusS.drew ⟨hT.new hb2, ⟨v, T, (hZ.alloc _).alloc _, hr.new hb2, hs, rfl⟩, ?_, ?_, hk.trans (Keeps.of_fresh hb2 _) (fun _ _ e => e)⟩ hZb
  · rcases hA with ⟨rfl, rfl⟩ | ⟨rfl, rfl⟩
    · exact RowAt.zeros h1
    · exact RowAt.zeros h2
  · rcases hA with ⟨rfl, rfl⟩ | ⟨rfl, rfl⟩
    · exact RowAt.zeros h2
    · exact RowAt.zeros h1
theorem BusS.row {B b base Z n gA gS : Nat} {W w : World} (h : BusS B b base Z n gA gS W w) {k : Nat} (hk : k < n) : (∃ l : List Int, Holds w gA (l.map (Value.int .i64)).toArray 3 ∧ Hid (Ones n l) ∧ ∃ x, w.cell? ⟨gA, k, none⟩ = some (.int .i64 x)) ∧ (∃ l : List Int, Holds w gS (l.map (Value.int .i64)).toArray 3 ∧ Hid (Ones n l) ∧ ∃ x, w.cell? ⟨gS, k, none⟩ = some (.int .i64 x)) := by
  obtain ⟨_, _, ⟨lA, hA, hA1⟩, ⟨lS, hS, hS1⟩, _⟩ := h
  refine ⟨⟨lA, hA, Lib.hid hA1, lA[k]'(by rw [hA1.1]; exact hk), ?_⟩, ⟨lS, hS, Lib.hid hS1, lS[k]'(by rw [hS1.1]; exact hk), ?_⟩⟩
  · rw [hA.cell k]; simp [hA1.1, hk]
  · rw [hS.cell k]; simp [hS1.1, hk]
end Go.Proofs.YthkoaakicdhnpaaGreat

namespace Go.Proofs.YthkoaakicdhnpaaGreat
open Go.RowKit

set_option maxHeartbeats 4000000 in
set_option maxRecDepth 100000 in
theorem bus_if56 {Q : Exit → Act → World → Prop} (B b base Z N gA gS : Nat) (w1 w : World) (hZ1b : Z ≠ b) (hbs : base ≤ w1.heap.size) (hZB : B ≤ Z) (hl2 : N ≤ 1000) (hgA : w1.heap.size ≤ gA) (_hgS : w1.heap.size ≤ gS) (hBA : B ≤ gA) (_hBS : B ≤ gS) (k : Nat) (hlt : k < N) (s : ByteArray) (q : Int) {u1 u2 u3 u4 u6 u11 u12 u13 u14 u15 u16 u17 u18 u19 u20 u21 u22 u23 u24 u25 u26 u27 u28 u29 u30 u31 u32 u33 u34 u35 u36 u37 u38 u39 u40 u41 u42 u43 u44 u45 u46 u47 u48 u49 u50 u51 u52 u53 u54 u57 u58 u59 u60 u61 u62 u63 u64 u65 u66 u67 u68 u69 u70 u71 u72 u73 u74 u75 u76 u77 u78 u79 u80 u81 u82 u83 u84 u85 u86 u87 u88 u89 u90 u91 u92 u93 u94 u95 u96 u97 u98 u99 u100 u101 u102 u103 u104 u105 u106 u107 u108 u109 u110 u111 u112 u113 u114 u115 u116 u117 u118 u119 u120 u121 u122 u123 u124 u125 u126 u127 u128 u129 u130 u131 u132 u133 u134 u135 u136 u137 u138 u139 u140 u141 u142 u143 u144 u145 u146 u147 u148 u149 u150 u151 u152 u153 u154 u155 u156 u157 u158 u159 u160 u161 u162 u163 u164 u165 u166 u167 u168 u169 u170 u171 u172 u173 u174 u175 u176 u177 u178 u179 u180 u181 u182 u183 u184 u185 u186 u187 u188 u189 u190 u191 u192 u193 u194 u195 u196 u197 u198 u199 u200 u201 u202 : Value}
    (hB : Hid (BusS B b base Z N gA gS w1 w)) (hQ : Hid (∀ (x56 x57 x58 x59 x60 x61 x62 x63 x64 x65 x66 x67 x68 x69 x70 : Value) (wx : World), BusS B b base Z N gA gS w1 wx → Q .normal ⟨#[.pointer (some ⟨b, 0, none⟩), u1, u2, u3, u4, .pointer (some ⟨Z, 0, none⟩), u6, .slice (some ⟨gA, 0, none⟩) N N, .slice (some ⟨gS, 0, none⟩) N N, .int .i64 k, .string s, u11, u12, u13, u14, u15, u16, u17, u18, u19, u20, u21, u22, u23, u24, u25, u26, u27, u28, u29, u30, u31, u32, u33, u34, u35, u36, u37, u38, u39, u40, u41, u42, u43, u44, u45, u46, u47, u48, u49, u50, u51, u52, u53, u54, .int .i64 q, x56, x57, x58, x59, x60, x61, x62, x63, x64, x65, x66, x67, x68, x69, x70, u71, u72, u73, u74, u75, u76, u77, u78, u79, u80, u81, u82, u83, u84, u85, u86, u87, u88, u89, u90, u91, u92, u93, u94, u95, u96, u97, u98, u99, u100, u101, u102, u103, u104, u105, u106, u107, u108, u109, u110, u111, u112, u113, u114, u115, u116, u117, u118, u119, u120, u121, u122, u123, u124, u125, u126, u127, u128, u129, u130, u131, u132, u133, u134, u135, u136, u137, u138, u139, u140, u141, u142, u143, u144, u145, u146, u147, u148, u149, u150, u151, u152, u153, u154, u155, u156, u157, u158, u159, u160, u161, u162, u163, u164, u165, u166, u167, u168, u169, u170, u171, u172, u173, u174, u175, u176, u177, u178, u179, u180, u181, u182, u183, u184, u185, u186, u187, u188, u189, u190, u191, u192, u193, u194, u195, u196, u197, u198, u199, u200, u201, u202], []⟩ wx)) :
    (busIf 56).wp Tryz.prog Q ⟨#[.pointer (some ⟨b, 0, none⟩), u1, u2, u3, u4, .pointer (some ⟨Z, 0, none⟩), u6, .slice (some ⟨gA, 0, none⟩) N N, .slice (some ⟨gS, 0, none⟩) N N, .int .i64 k, .string s, u11, u12, u13, u14, u15, u16, u17, u18, u19, u20, u21, u22, u23, u24, u25, u26, u27, u28, u29, u30, u31, u32, u33, u34, u35, u36, u37, u38, u39, u40, u41, u42, u43, u44, u45, u46, u47, u48, u49, u50, u51, u52, u53, u54, .int .i64 q, .bool (q == 0), u57, u58, u59, u60, u61, u62, u63, u64, u65, u66, u67, u68, u69, u70, u71, u72, u73, u74, u75, u76, u77, u78, u79, u80, u81, u82, u83, u84, u85, u86, u87, u88, u89, u90, u91, u92, u93, u94, u95, u96, u97, u98, u99, u100, u101, u102, u103, u104, u105, u106, u107, u108, u109, u110, u111, u112, u113, u114, u115, u116, u117, u118, u119, u120, u121, u122, u123, u124, u125, u126, u127, u128, u129, u130, u131, u132, u133, u134, u135, u136, u137, u138, u139, u140, u141, u142, u143, u144, u145, u146, u147, u148, u149, u150, u151, u152, u153, u154, u155, u156, u157, u158, u159, u160, u161, u162, u163, u164, u165, u166, u167, u168, u169, u170, u171, u172, u173, u174, u175, u176, u177, u178, u179, u180, u181, u182, u183, u184, u185, u186, u187, u188, u189, u190, u191, u192, u193, u194, u195, u196, u197, u198, u199, u200, u201, u202], []⟩ w := by
  simp only [busIf, ifOf, Tryz.f7, Option.getD_some, reduceIte, Nat.reduceEqDiff]
  have hT4 := hB.out.1
  have hlt' : (k : Int) < N := by omega
  by_cases hz : q = 0
  · have hz' : (q == 0) = true := by simp [hz]
    clear hz
    go_wp2_with fail
    refine (mk_Range B b 1 2 _ hT4 (by omega) (by omega) (by omega)).mono ?_
    rintro e w4 ⟨x, rfl, hx1, hx2, hT5, hk5⟩
    have hB5 := hB.out.call hZ1b hk5 hT5
    obtain ⟨⟨lR, hR, hR1, xR, hcR⟩, _⟩ := hB5.row hlt
    have hfR := hR.free k
    have hB6 := hB5.put hZ1b (k := k) hR hR1.out hgA x (by omega) hBA
    have HB6 := Lib.hid hB6
    clear hB5 hB6 hT4 hT5 hk5 hR hR1
    go_wp2_with fail
    refine wp_region_any (by kernel_rfl) ?_
    refine wpAny_ops (ops' := busOps 14) (by kernel_rfl) ?_
    refine bus_region14 B b base Z N gA gS k s w1 _ _ rfl hZ1b hbs hZB hlt hl2 rfl rfl rfl rfl (by exact HB6.out.drew hZ1b) ?_
    intro c w5 hsb hB7
    obtain ⟨y62, y63, y64, y65, y66, y67, y68, y69, y70, hc⟩ := hsb.ex [62, 63, 64, 65, 66, 67, 68, 69, 70] (by kernel_rfl)
    subst hc
    simp only [List.setIfInBounds_toArray, List.set_cons_zero, List.set_cons_succ]
    exact hQ.out _ _ _ _ _ _ _ _ _ _ _ _ _ _ _ _ hB7
  · have hz' : (q == 0) = false := by simpa using hz
    clear hz
    go_wp2_with fail
    exact hQ.out _ _ _ _ _ _ _ _ _ _ _ _ _ _ _ _ hB.out

set_option maxHeartbeats 4000000 in
set_option maxRecDepth 100000 in
theorem bus_if73 {Q : Exit → Act → World → Prop} (B b base Z N gA gS : Nat) (w1 w : World) (hZ1b : Z ≠ b) (hbs : base ≤ w1.heap.size) (hZB : B ≤ Z) (hl2 : N ≤ 1000) (_hgA : w1.heap.size ≤ gA) (hgS : w1.heap.size ≤ gS) (_hBA : B ≤ gA) (hBS : B ≤ gS) (k : Nat) (hlt : k < N) (s : ByteArray) (q : Int) {u1 u2 u3 u4 u6 u11 u12 u13 u14 u15 u16 u17 u18 u19 u20 u21 u22 u23 u24 u25 u26 u27 u28 u29 u30 u31 u32 u33 u34 u35 u36 u37 u38 u39 u40 u41 u42 u43 u44 u45 u46 u47 u48 u49 u50 u51 u52 u53 u54 u55 u56 u57 u58 u59 u60 u61 u62 u63 u64 u65 u66 u67 u68 u69 u70 u71 u74 u75 u76 u77 u78 u79 u80 u81 u82 u83 u84 u85 u86 u87 u88 u89 u90 u91 u92 u93 u94 u95 u96 u97 u98 u99 u100 u101 u102 u103 u104 u105 u106 u107 u108 u109 u110 u111 u112 u113 u114 u115 u116 u117 u118 u119 u120 u121 u122 u123 u124 u125 u126 u127 u128 u129 u130 u131 u132 u133 u134 u135 u136 u137 u138 u139 u140 u141 u142 u143 u144 u145 u146 u147 u148 u149 u150 u151 u152 u153 u154 u155 u156 u157 u158 u159 u160 u161 u162 u163 u164 u165 u166 u167 u168 u169 u170 u171 u172 u173 u174 u175 u176 u177 u178 u179 u180 u181 u182 u183 u184 u185 u186 u187 u188 u189 u190 u191 u192 u193 u194 u195 u196 u197 u198 u199 u200 u201 u202 : Value}
    (hB : Hid (BusS B b base Z N gA gS w1 w)) (hQ : Hid (∀ (x73 x74 x75 x76 x77 x78 x79 x80 x81 x82 x83 x84 x85 x86 x87 : Value) (wx : World), BusS B b base Z N gA gS w1 wx → Q .normal ⟨#[.pointer (some ⟨b, 0, none⟩), u1, u2, u3, u4, .pointer (some ⟨Z, 0, none⟩), u6, .slice (some ⟨gA, 0, none⟩) N N, .slice (some ⟨gS, 0, none⟩) N N, .int .i64 k, .string s, u11, u12, u13, u14, u15, u16, u17, u18, u19, u20, u21, u22, u23, u24, u25, u26, u27, u28, u29, u30, u31, u32, u33, u34, u35, u36, u37, u38, u39, u40, u41, u42, u43, u44, u45, u46, u47, u48, u49, u50, u51, u52, u53, u54, u55, u56, u57, u58, u59, u60, u61, u62, u63, u64, u65, u66, u67, u68, u69, u70, u71, .int .i64 q, x73, x74, x75, x76, x77, x78, x79, x80, x81, x82, x83, x84, x85, x86, x87, u88, u89, u90, u91, u92, u93, u94, u95, u96, u97, u98, u99, u100, u101, u102, u103, u104, u105, u106, u107, u108, u109, u110, u111, u112, u113, u114, u115, u116, u117, u118, u119, u120, u121, u122, u123, u124, u125, u126, u127, u128, u129, u130, u131, u132, u133, u134, u135, u136, u137, u138, u139, u140, u141, u142, u143, u144, u145, u146, u147, u148, u149, u150, u151, u152, u153, u154, u155, u156, u157, u158, u159, u160, u161, u162, u163, u164, u165, u166, u167, u168, u169, u170, u171, u172, u173, u174, u175, u176, u177, u178, u179, u180, u181, u182, u183, u184, u185, u186, u187, u188, u189, u190, u191, u192, u193, u194, u195, u196, u197, u198, u199, u200, u201, u202], []⟩ wx)) :
    (busIf 73).wp Tryz.prog Q ⟨#[.pointer (some ⟨b, 0, none⟩), u1, u2, u3, u4, .pointer (some ⟨Z, 0, none⟩), u6, .slice (some ⟨gA, 0, none⟩) N N, .slice (some ⟨gS, 0, none⟩) N N, .int .i64 k, .string s, u11, u12, u13, u14, u15, u16, u17, u18, u19, u20, u21, u22, u23, u24, u25, u26, u27, u28, u29, u30, u31, u32, u33, u34, u35, u36, u37, u38, u39, u40, u41, u42, u43, u44, u45, u46, u47, u48, u49, u50, u51, u52, u53, u54, u55, u56, u57, u58, u59, u60, u61, u62, u63, u64, u65, u66, u67, u68, u69, u70, u71, .int .i64 q, .bool (q == 0), u74, u75, u76, u77, u78, u79, u80, u81, u82, u83, u84, u85, u86, u87, u88, u89, u90, u91, u92, u93, u94, u95, u96, u97, u98, u99, u100, u101, u102, u103, u104, u105, u106, u107, u108, u109, u110, u111, u112, u113, u114, u115, u116, u117, u118, u119, u120, u121, u122, u123, u124, u125, u126, u127, u128, u129, u130, u131, u132, u133, u134, u135, u136, u137, u138, u139, u140, u141, u142, u143, u144, u145, u146, u147, u148, u149, u150, u151, u152, u153, u154, u155, u156, u157, u158, u159, u160, u161, u162, u163, u164, u165, u166, u167, u168, u169, u170, u171, u172, u173, u174, u175, u176, u177, u178, u179, u180, u181, u182, u183, u184, u185, u186, u187, u188, u189, u190, u191, u192, u193, u194, u195, u196, u197, u198, u199, u200, u201, u202], []⟩ w := by
  simp only [busIf, ifOf, Tryz.f7, Option.getD_some, reduceIte, Nat.reduceEqDiff]
  have hT4 := hB.out.1
  have hlt' : (k : Int) < N := by omega
  by_cases hz : q = 0
  · have hz' : (q == 0) = true := by simp [hz]
    clear hz
    go_wp2_with fail
    refine (mk_Range B b 1 2 _ hT4 (by omega) (by omega) (by omega)).mono ?_
    rintro e w4 ⟨x, rfl, hx1, hx2, hT5, hk5⟩
    have hB5 := hB.out.call hZ1b hk5 hT5
    obtain ⟨_, ⟨lR, hR, hR1, xR, hcR⟩⟩ := hB5.row hlt
    have hfR := hR.free k
    have hB6 := hB5.put hZ1b (k := k) hR hR1.out hgS x (by omega) hBS
    have HB6 := Lib.hid hB6
    clear hB5 hB6 hT4 hT5 hk5 hR hR1
    go_wp2_with fail
    refine wp_region_any (by kernel_rfl) ?_
    refine wpAny_ops (ops' := busOps 17) (by kernel_rfl) ?_
    refine bus_region17 B b base Z N gA gS k s w1 _ _ rfl hZ1b hbs hZB hlt hl2 rfl rfl rfl rfl (by exact HB6.out.drew hZ1b) ?_
    intro c w5 hsb hB7
    obtain ⟨y79, y80, y81, y82, y83, y84, y85, y86, y87, hc⟩ := hsb.ex [79, 80, 81, 82, 83, 84, 85, 86, 87] (by kernel_rfl)
    subst hc
    simp only [List.setIfInBounds_toArray, List.set_cons_zero, List.set_cons_succ]
    exact hQ.out _ _ _ _ _ _ _ _ _ _ _ _ _ _ _ _ hB7
  · have hz' : (q == 0) = false := by simpa using hz
    clear hz
    go_wp2_with fail
    exact hQ.out _ _ _ _ _ _ _ _ _ _ _ _ _ _ _ _ hB.out
end Go.Proofs.YthkoaakicdhnpaaGreat

namespace Go.Proofs.YthkoaakicdhnpaaGreat
open Go.RowKit

theorem bus24 : inRow2 .any (busOps 24) = true := by kernel_rfl
theorem bus24a : apartB (busOps 24) = true := by kernel_rfl
theorem bus24n : (busOps 24).size = 22 := by kernel_rfl
def F24 (b n gA gS _k i1 M : Nat) (s : ByteArray) (j : Nat) : Value → World → Prop := match j with
  | 0 => fun u _ => u = .string s
  | 1 => fun u _ => u = .pointer (some ⟨b, 0, none⟩)
  | 2 => fun u _ => u = .pointer (some ⟨b, 0, none⟩)
  | 3 => NumV fun x => 0 ≤ x ∧ x < 5000
  | 4 => RowV fun l => ∃ x, l = [0, 16, 32, 4096, x] ∧ 0 ≤ x ∧ x < 5000
  | 5 => NumV fun x => 0 ≤ x ∧ x ≤ 2147483648
  | 6 => fun u _ => u = .slice (some ⟨gA, 0, none⟩) n n
  | 7 => fun u _ => u = .int .i64 i1
  | 8 => fun u _ => u = .pointer (some ⟨gA, i1, none⟩)
  | 9 => NumV fun x => x = 0 ∨ x = 1 ∨ x = 2
  | 10 => StrV 8
  | 11 => fun u _ => u = .pointer (some ⟨b, 0, none⟩)
  | 12 => RowV fun l => l = [4, 16, 256, 0, 1]
  | 13 => NumV fun x => 0 ≤ x ∧ x ≤ 2147483648
  | 14 => fun u _ => u = .slice (some ⟨gS, 0, none⟩) n n
  | 15 => fun u _ => u = .int .i64 i1
  | 16 => fun u _ => u = .pointer (some ⟨gS, i1, none⟩)
  | 17 => NumV fun x => x = 0 ∨ x = 1 ∨ x = 2
  | 18 => StrV 8
  | 19 => StrV (8 + 8)
  | 20 => StrV (M + 16)
  | 21 => StrV (M + 16)
  | _ => fun _ _ => True
theorem F24.stable {B b Z n gA gS k i1 M : Nat} {s : ByteArray} (j : Nat) : Stable B b Z (F24 b n gA gS k i1 M s j) := by
  unfold F24
  split
  · exact Stable.const
  · exact Stable.const
  · exact Stable.const
  · exact Stable.num
  · exact Stable.row
  · exact Stable.num
  · exact Stable.const
  · exact Stable.const
  · exact Stable.const
  · exact Stable.num
  · exact Stable.str
  · exact Stable.const
  · exact Stable.row
  · exact Stable.num
  · exact Stable.const
  · exact Stable.const
  · exact Stable.const
  · exact Stable.num
  · exact Stable.str
  · exact Stable.str
  · exact Stable.str
  · exact Stable.str
  · exact Stable.const

set_option maxHeartbeats 4000000 in
set_option maxRecDepth 100000 in
theorem bus_region24 {Q : Exit → Act → World → Prop} (B b base Z n gA gS k i1 M : Nat) (s : ByteArray) (W w : World) (A : Act) (hsz : A.tmps.size = 203) (hZb : Z ≠ b) (_hk : k < n) (hi1 : i1 < n) (hsM : s.size ≤ M) (hM : M ≤ 1000)
    (a0 : A.tmps.getD 0 undef = .pointer (some ⟨b, 0, none⟩)) (a7 : A.tmps.getD 7 undef = .slice (some ⟨gA, 0, none⟩) n n) (a8 : A.tmps.getD 8 undef = .slice (some ⟨gS, 0, none⟩) n n) (a9 : A.tmps.getD 9 undef = .int .i64 k) (a11 : A.tmps.getD 11 undef = .int .i64 i1) (aac : A.tmps.getD 12 undef = .string s)
    (hS : BusS B b base Z n gA gS W w) (hQ : ∀ c w', SameBut (busOps 24) A c → BusS B b base Z n gA gS W w' → StrV (M + 16) (c.tmps.getD 12 undef) w' → Q .normal c w') :
    wpAny Tryz.prog .any (busOps 24) Q (busOps 24).size (Array.replicate (busOps 24).size false) A w := by
  refine wpAny_inv2 (fun l c wx => RInvF (busOps 24) A (F24 b n gA gS k i1 M s) (BusS B b base Z n gA gS W) l c wx) bus24 (fun l c wx hI hl => hQ c wx hI.1.1 hI.1.2.1 (hI.fact 21 12 rfl (hl 21 (by rw [bus24n]; decide)))) ?hstep _ _ _ _ (by simp) (by simp) (RInvF.start hS)
  intro l c wx hI i o ho hl hall K' hK'
  have hi13 : i < 22 := by rw [← bus24n]; exact (Array.getElem?_eq_some_iff.1 ho).1
  simp only [busOps, regOps, Tryz.f7, Option.getD_some, reduceIte, Nat.reduceEqDiff] at ho
  have hSx := hI.1.2.1
  have HSX := Lib.hid hSx
  obtain ⟨hT, ⟨v, T, hZ, _, _, _⟩, ⟨lA, hA, hA1, hA2⟩, ⟨lS, hS0, hS1, hS2⟩, _⟩ := hSx
  have HA1 := Lib.hid hA1
  have HS1 := Lib.hid hS1
  clear hA1 hS1
  have s0 := (hI.slot 0 (by kernel_rfl)).trans a0
  have s7 := (hI.slot 7 (by kernel_rfl)).trans a7
  have s8 := (hI.slot 8 (by kernel_rfl)).trans a8
  have s9 := (hI.slot 9 (by kernel_rfl)).trans a9
  have s11 := (hI.slot 11 (by kernel_rfl)).trans a11
  simp only [Array.getD_eq_getD_getElem?] at s0 s7 s8 s9 s11
  have hic : i = 0 ∨ i = 1 ∨ i = 2 ∨ i = 3 ∨ i = 4 ∨ i = 5 ∨ i = 6 ∨ i = 7 ∨ i = 8 ∨ i = 9 ∨ i = 10 ∨ i = 11 ∨ i = 12 ∨ i = 13 ∨ i = 14 ∨ i = 15 ∨ i = 16 ∨ i = 17 ∨ i = 18 ∨ i = 19 ∨ i = 20 ∨ i = 21 := by omega
  rcases hic with rfl | rfl | rfl | rfl | rfl | rfl | rfl | rfl | rfl | rfl | rfl | rfl | rfl | rfl | rfl | rfl | rfl | rfl | rfl | rfl | rfl | rfl
  all_goals cases ho
  · have q0 : l.getD 20 false = false := hI.1.2.2.1.2.unlisted hl (by kernel_rfl)
    have q1 : l.getD 21 false = false := hI.1.2.2.1.2.unlisted q0 (by kernel_rfl)
    have sc := (hI.2 21 12 rfl q1).trans aac
    simp only [Array.getD_eq_getD_getElem?] at sc
    go_simp
    exact hK' _ _ (hI.step bus24a 0 102 rfl (by rw [hsz]; decide) _ _ rfl hall HSX.out (fun _ _ h => h) rfl)
  · go_simp
    exact hK' _ _ (hI.step bus24a 1 103 rfl (by rw [hsz]; decide) _ _ rfl hall HSX.out (fun _ _ h => h) rfl)
  · go_simp
    exact hK' _ _ (hI.step bus24a 2 104 rfl (by rw [hsz]; decide) _ _ rfl hall HSX.out (fun _ _ h => h) rfl)
  · have ea : c.tmps.getD 104 undef = .pointer (some ⟨b, 0, none⟩) := hI.fact 2 104 rfl (listed hall 2 (by kernel_rfl))
    simp only [Array.getD_eq_getD_getElem?] at ea
    go_simp
    refine (mk_N B b 5000 wx hT (by decide) (by decide)).mono ?_
    rintro e w2 ⟨r, rfl, hr1, hr2, ht2, k2⟩
    go_simp
    have hS2 := BusS.call HSX.out hZb k2 ht2
    exact hK' _ _ (hI.step bus24a 3 105 rfl (by rw [hsz]; decide) _ _ rfl hall hS2 (fun j u h => F24.stable j u _ _ hT ⟨_, hZ⟩ (k2.mono (fun _ _ e => Or.inl e)) h) ⟨r, rfl, hr1, hr2⟩)
  · obtain ⟨x, ea, hx1, hx2⟩ : NumV (fun x => 0 ≤ x ∧ x < 5000) (c.tmps.getD 105 undef) wx := hI.fact 3 105 rfl (listed hall 3 (by kernel_rfl))
    simp only [Array.getD_eq_getD_getElem?] at ea
    go_simp
    have hb2 : Below wx.heap.size wx (wx.alloc (.cells #[.int .i64 0, .int .i64 16, .int .i64 32, .int .i64 4096, .int .i64 x] 3)) := (Below.refl _ _).alloc (Nat.le_refl _) _
    have k2 := Keeps.of_fresh hb2 (fun i => i = b)
    have ht2 := hT.new hb2
    have hS2 := BusS.call HSX.out hZb k2 ht2
    exact hK' _ _ (hI.step bus24a 4 106 rfl (by rw [hsz]; decide) _ _ rfl hall hS2 (fun j u h => F24.stable j u _ _ hT ⟨_, hZ⟩ (k2.mono (fun _ _ e => Or.inl e)) h) ⟨_, [0, 16, 32, 4096, x], rfl, Holds.new _ _ _, x, rfl, hx1, hx2⟩)
  · have ea : c.tmps.getD 103 undef = .pointer (some ⟨b, 0, none⟩) := hI.fact 1 103 rfl (listed hall 1 (by kernel_rfl))
    simp only [Array.getD_eq_getD_getElem?] at ea
    obtain ⟨N, l, eb, hN, x, rfl, hx1, hx2⟩ : RowV (fun l => ∃ x, l = [0, 16, 32, 4096, x] ∧ 0 ≤ x ∧ x < 5000) (c.tmps.getD 106 undef) wx := hI.fact 4 106 rfl (listed hall 4 (by kernel_rfl))
    simp only [Array.getD_eq_getD_getElem?] at eb
    have hNb := row_ne_tape hN hT
    go_simp
    refine (mk_Pick B b N 0 _ [0, 16, 32, 4096, x] wx hT (by simp) (by simp) hNb (fun i hi => row_at hN i hi)).mono ?_
    rintro e w2 ⟨r, rfl, hr, ht2, k2⟩
    have hr2 : 0 ≤ r ∧ r ≤ 2147483648 := by simp at hr; omega
    go_simp
    have hS2 := BusS.call HSX.out hZb k2 ht2
    exact hK' _ _ (hI.step bus24a 5 107 rfl (by rw [hsz]; decide) _ _ rfl hall hS2 (fun j u h => F24.stable j u _ _ hT ⟨_, hZ⟩ (k2.mono (fun _ _ e => Or.inl e)) h) ⟨r, rfl, hr2⟩)
  · go_simp
    exact hK' _ _ (hI.step bus24a 6 108 rfl (by rw [hsz]; decide) _ _ rfl hall HSX.out (fun _ _ h => h) rfl)
  · go_simp
    exact hK' _ _ (hI.step bus24a 7 109 rfl (by rw [hsz]; decide) _ _ rfl hall HSX.out (fun _ _ h => h) rfl)
  · have ea : c.tmps.getD 108 undef = .slice (some ⟨gA, 0, none⟩) n n := hI.fact 6 108 rfl (listed hall 6 (by kernel_rfl))
    simp only [Array.getD_eq_getD_getElem?] at ea
    have eb : c.tmps.getD 109 undef = .int .i64 i1 := hI.fact 7 109 rfl (listed hall 7 (by kernel_rfl))
    simp only [Array.getD_eq_getD_getElem?] at eb
    go_simp
    exact hK' _ _ (hI.step bus24a 8 110 rfl (by rw [hsz]; decide) _ _ rfl hall HSX.out (fun _ _ h => h) rfl)
  · have ea : c.tmps.getD 110 undef = .pointer (some ⟨gA, i1, none⟩) := hI.fact 8 110 rfl (listed hall 8 (by kernel_rfl))
    simp only [Array.getD_eq_getD_getElem?] at ea
    have hkl : i1 < lA.length := by rw [HA1.out]; exact hi1
    have hc : wx.cell? ⟨gA, i1, none⟩ = some (.int .i64 (lA[i1]'hkl)) := by rw [hA.cell i1]; simp [hkl]
    go_simp
    exact hK' _ _ (hI.step bus24a 9 111 rfl (by rw [hsz]; decide) _ _ rfl hall HSX.out (fun _ _ h => h) ⟨_, rfl, hA2 _ (List.getElem_mem hkl)⟩)
  · obtain ⟨x, ea, hx1, hx2⟩ : NumV (fun x => 0 ≤ x ∧ x ≤ 2147483648) (c.tmps.getD 107 undef) wx := hI.fact 5 107 rfl (listed hall 5 (by kernel_rfl))
    simp only [Array.getD_eq_getD_getElem?] at ea
    obtain ⟨y, eb, hy⟩ : NumV (fun x => x = 0 ∨ x = 1 ∨ x = 2) (c.tmps.getD 111 undef) wx := hI.fact 9 111 rfl (listed hall 9 (by kernel_rfl))
    simp only [Array.getD_eq_getD_getElem?] at eb
    go_simp
    refine (grow_wide x y wx hx1 (by omega) (Or.inr (by omega))).mono ?_
    rintro e w2 ⟨rfl, hb2⟩
    go_simp
    have k2 := Keeps.of_fresh hb2 (fun i => i = b)
    have ht2 := hT.new hb2
    have hS2 := BusS.call HSX.out hZb k2 ht2
    exact hK' _ _ (hI.step bus24a 10 112 rfl (by rw [hsz]; decide) _ _ rfl hall hS2 (fun j u h => F24.stable j u _ _ hT ⟨_, hZ⟩ (k2.mono (fun _ _ e => Or.inl e)) h) ⟨_, rfl, wide_size _ _⟩)
  · go_simp
    exact hK' _ _ (hI.step bus24a 11 113 rfl (by rw [hsz]; decide) _ _ rfl hall HSX.out (fun _ _ h => h) rfl)
  · go_simp
    have hb2 : Below wx.heap.size wx (wx.alloc (.cells #[.int .i64 4, .int .i64 16, .int .i64 256, .int .i64 0, .int .i64 1] 3)) := (Below.refl _ _).alloc (Nat.le_refl _) _
    have k2 := Keeps.of_fresh hb2 (fun i => i = b)
    have ht2 := hT.new hb2
    have hS2 := BusS.call HSX.out hZb k2 ht2
    exact hK' _ _ (hI.step bus24a 12 114 rfl (by rw [hsz]; decide) _ _ rfl hall hS2 (fun j u h => F24.stable j u _ _ hT ⟨_, hZ⟩ (k2.mono (fun _ _ e => Or.inl e)) h) ⟨_, [4, 16, 256, 0, 1], rfl, Holds.new _ _ _, rfl⟩)
  · have ea : c.tmps.getD 113 undef = .pointer (some ⟨b, 0, none⟩) := hI.fact 11 113 rfl (listed hall 11 (by kernel_rfl))
    simp only [Array.getD_eq_getD_getElem?] at ea
    obtain ⟨N, l, eb, hN, rfl⟩ : RowV (fun l => l = [4, 16, 256, 0, 1]) (c.tmps.getD 114 undef) wx := hI.fact 12 114 rfl (listed hall 12 (by kernel_rfl))
    simp only [Array.getD_eq_getD_getElem?] at eb
    have hNb := row_ne_tape hN hT
    go_simp
    refine (mk_Pick B b N 0 _ [4, 16, 256, 0, 1] wx hT (by simp) (by simp) hNb (fun i hi => row_at hN i hi)).mono ?_
    rintro e w2 ⟨r, rfl, hr, ht2, k2⟩
    have hr2 : 0 ≤ r ∧ r ≤ 2147483648 := by simp at hr; omega
    go_simp
    have hS2 := BusS.call HSX.out hZb k2 ht2
    exact hK' _ _ (hI.step bus24a 13 115 rfl (by rw [hsz]; decide) _ _ rfl hall hS2 (fun j u h => F24.stable j u _ _ hT ⟨_, hZ⟩ (k2.mono (fun _ _ e => Or.inl e)) h) ⟨r, rfl, hr2⟩)
  · go_simp
    exact hK' _ _ (hI.step bus24a 14 116 rfl (by rw [hsz]; decide) _ _ rfl hall HSX.out (fun _ _ h => h) rfl)
  · go_simp
    exact hK' _ _ (hI.step bus24a 15 117 rfl (by rw [hsz]; decide) _ _ rfl hall HSX.out (fun _ _ h => h) rfl)
  · have ea : c.tmps.getD 116 undef = .slice (some ⟨gS, 0, none⟩) n n := hI.fact 14 116 rfl (listed hall 14 (by kernel_rfl))
    simp only [Array.getD_eq_getD_getElem?] at ea
    have eb : c.tmps.getD 117 undef = .int .i64 i1 := hI.fact 15 117 rfl (listed hall 15 (by kernel_rfl))
    simp only [Array.getD_eq_getD_getElem?] at eb
    go_simp
    exact hK' _ _ (hI.step bus24a 16 118 rfl (by rw [hsz]; decide) _ _ rfl hall HSX.out (fun _ _ h => h) rfl)
  · have ea : c.tmps.getD 118 undef = .pointer (some ⟨gS, i1, none⟩) := hI.fact 16 118 rfl (listed hall 16 (by kernel_rfl))
    simp only [Array.getD_eq_getD_getElem?] at ea
    have hkl : i1 < lS.length := by rw [HS1.out]; exact hi1
    have hc : wx.cell? ⟨gS, i1, none⟩ = some (.int .i64 (lS[i1]'hkl)) := by rw [hS0.cell i1]; simp [hkl]
    go_simp
    exact hK' _ _ (hI.step bus24a 17 119 rfl (by rw [hsz]; decide) _ _ rfl hall HSX.out (fun _ _ h => h) ⟨_, rfl, hS2 _ (List.getElem_mem hkl)⟩)
  · obtain ⟨x, ea, hx1, hx2⟩ : NumV (fun x => 0 ≤ x ∧ x ≤ 2147483648) (c.tmps.getD 115 undef) wx := hI.fact 13 115 rfl (listed hall 13 (by kernel_rfl))
    simp only [Array.getD_eq_getD_getElem?] at ea
    obtain ⟨y, eb, hy⟩ : NumV (fun x => x = 0 ∨ x = 1 ∨ x = 2) (c.tmps.getD 119 undef) wx := hI.fact 17 119 rfl (listed hall 17 (by kernel_rfl))
    simp only [Array.getD_eq_getD_getElem?] at eb
    go_simp
    refine (grow_wide x y wx hx1 (by omega) (Or.inr (by omega))).mono ?_
    rintro e w2 ⟨rfl, hb2⟩
    go_simp
    have k2 := Keeps.of_fresh hb2 (fun i => i = b)
    have ht2 := hT.new hb2
    have hS2 := BusS.call HSX.out hZb k2 ht2
    exact hK' _ _ (hI.step bus24a 18 120 rfl (by rw [hsz]; decide) _ _ rfl hall hS2 (fun j u h => F24.stable j u _ _ hT ⟨_, hZ⟩ (k2.mono (fun _ _ e => Or.inl e)) h) ⟨_, rfl, wide_size _ _⟩)
  · obtain ⟨s', ea, hs'⟩ : StrV 8 (c.tmps.getD 112 undef) wx := hI.fact 10 112 rfl (listed hall 10 (by kernel_rfl))
    simp only [Array.getD_eq_getD_getElem?] at ea
    obtain ⟨t, eb, ht⟩ : StrV 8 (c.tmps.getD 120 undef) wx := hI.fact 18 120 rfl (listed hall 18 (by kernel_rfl))
    simp only [Array.getD_eq_getD_getElem?] at eb
    obtain ⟨ad, hA3, hA4⟩ := addsG_ex s' t (by omega)
    have hx : ad.size ≤ 8 + 8 := by omega
    unfold AddsG at hA3
    go_simp
    exact hK' _ _ (hI.step bus24a 19 121 rfl (by rw [hsz]; decide) _ _ rfl hall HSX.out (fun _ _ h => h) ⟨_, rfl, hx⟩)
  · have ea : c.tmps.getD 102 undef = .string s := hI.fact 0 102 rfl (listed hall 0 (by kernel_rfl))
    simp only [Array.getD_eq_getD_getElem?] at ea
    obtain ⟨t, eb, ht⟩ : StrV (8 + 8) (c.tmps.getD 121 undef) wx := hI.fact 19 121 rfl (listed hall 19 (by kernel_rfl))
    simp only [Array.getD_eq_getD_getElem?] at eb
    obtain ⟨ad, hA3, hA4⟩ := addsG_ex s t (by omega)
    have hx : ad.size ≤ M + 16 := by omega
    unfold AddsG at hA3
    go_simp
    exact hK' _ _ (hI.step bus24a 20 122 rfl (by rw [hsz]; decide) _ _ rfl hall HSX.out (fun _ _ h => h) ⟨_, rfl, hx⟩)
  · obtain ⟨t, ea, ht⟩ : StrV (M + 16) (c.tmps.getD 122 undef) wx := hI.fact 20 122 rfl (listed hall 20 (by kernel_rfl))
    simp only [Array.getD_eq_getD_getElem?] at ea
    go_simp
    exact hK' _ _ (hI.step bus24a 21 12 rfl (by rw [hsz]; decide) _ _ rfl hall HSX.out (fun _ _ h => h) ⟨_, rfl, ht⟩)
end Go.Proofs.YthkoaakicdhnpaaGreat

namespace Go.Proofs.YthkoaakicdhnpaaGreat
open Go.RowKit

theorem bus28 : inRow2 .any (busOps 28) = true := by kernel_rfl
theorem bus28a : apartB (busOps 28) = true := by kernel_rfl
theorem bus28n : (busOps 28).size = 29 := by kernel_rfl
def F28 (b n gA gS k i1 M : Nat) (s : ByteArray) (j : Nat) : Value → World → Prop := match j with
  | 0 => fun u _ => u = .string s
  | 1 => fun u _ => u = .pointer (some ⟨b, 0, none⟩)
  | 2 => RowV fun l => l = [0, 0, 16, 4096]
  | 3 => NumV fun x => 0 ≤ x ∧ x ≤ 2147483648
  | 4 => fun u _ => u = .slice (some ⟨gA, 0, none⟩) n n
  | 5 => fun u _ => u = .int .i64 k
  | 6 => fun u _ => u = .pointer (some ⟨gA, k, none⟩)
  | 7 => NumV fun x => x = 0 ∨ x = 1 ∨ x = 2
  | 8 => StrV 8
  | 9 => fun u _ => u = .pointer (some ⟨b, 0, none⟩)
  | 10 => RowV fun l => l = [4096, 65536, 0, 2147483648]
  | 11 => NumV fun x => 0 ≤ x ∧ x ≤ 2147483648
  | 12 => fun u _ => u = .slice (some ⟨gA, 0, none⟩) n n
  | 13 => fun u _ => u = .int .i64 i1
  | 14 => fun u _ => u = .pointer (some ⟨gA, i1, none⟩)
  | 15 => NumV fun x => x = 0 ∨ x = 1 ∨ x = 2
  | 16 => StrV 8
  | 17 => StrV (8 + 8)
  | 18 => fun u _ => u = .pointer (some ⟨b, 0, none⟩)
  | 19 => RowV fun l => l = [256, 4096, 8192, 1]
  | 20 => NumV fun x => 0 ≤ x ∧ x ≤ 2147483648
  | 21 => fun u _ => u = .slice (some ⟨gS, 0, none⟩) n n
  | 22 => fun u _ => u = .int .i64 k
  | 23 => fun u _ => u = .pointer (some ⟨gS, k, none⟩)
  | 24 => NumV fun x => x = 0 ∨ x = 1 ∨ x = 2
  | 25 => StrV 8
  | 26 => StrV (16 + 8)
  | 27 => StrV (M + 24)
  | 28 => StrV (M + 24)
  | _ => fun _ _ => True
theorem F28.stable {B b Z n gA gS k i1 M : Nat} {s : ByteArray} (j : Nat) : Stable B b Z (F28 b n gA gS k i1 M s j) := by
  unfold F28
  split
  · exact Stable.const
  · exact Stable.const
  · exact Stable.row
  · exact Stable.num
  · exact Stable.const
  · exact Stable.const
  · exact Stable.const
  · exact Stable.num
  · exact Stable.str
  · exact Stable.const
  · exact Stable.row
  · exact Stable.num
  · exact Stable.const
  · exact Stable.const
  · exact Stable.const
  · exact Stable.num
  · exact Stable.str
  · exact Stable.str
  · exact Stable.const
  · exact Stable.row
  · exact Stable.num
  · exact Stable.const
  · exact Stable.const
  · exact Stable.const
  · exact Stable.num
  · exact Stable.str
  · exact Stable.str
  · exact Stable.str
  · exact Stable.str
  · exact Stable.const

set_option maxHeartbeats 4000000 in
set_option maxRecDepth 100000 in
theorem bus_region28 {Q : Exit → Act → World → Prop} (B b base Z n gA gS k i1 M : Nat) (s : ByteArray) (W w : World) (A : Act) (hsz : A.tmps.size = 203) (hZb : Z ≠ b) (hk : k < n) (hi1 : i1 < n) (hsM : s.size ≤ M) (hM : M ≤ 1000)
    (a0 : A.tmps.getD 0 undef = .pointer (some ⟨b, 0, none⟩)) (a7 : A.tmps.getD 7 undef = .slice (some ⟨gA, 0, none⟩) n n) (a8 : A.tmps.getD 8 undef = .slice (some ⟨gS, 0, none⟩) n n) (a9 : A.tmps.getD 9 undef = .int .i64 k) (a11 : A.tmps.getD 11 undef = .int .i64 i1) (aac : A.tmps.getD 13 undef = .string s)
    (hS : BusS B b base Z n gA gS W w) (hQ : ∀ c w', SameBut (busOps 28) A c → BusS B b base Z n gA gS W w' → StrV (M + 24) (c.tmps.getD 13 undef) w' → Q .normal c w') :
    wpAny Tryz.prog .any (busOps 28) Q (busOps 28).size (Array.replicate (busOps 28).size false) A w := by
  refine wpAny_inv2 (fun l c wx => RInvF (busOps 28) A (F28 b n gA gS k i1 M s) (BusS B b base Z n gA gS W) l c wx) bus28 (fun l c wx hI hl => hQ c wx hI.1.1 hI.1.2.1 (hI.fact 28 13 rfl (hl 28 (by rw [bus28n]; decide)))) ?hstep _ _ _ _ (by simp) (by simp) (RInvF.start hS)
  intro l c wx hI i o ho hl hall K' hK'
  have hi13 : i < 29 := by rw [← bus28n]; exact (Array.getElem?_eq_some_iff.1 ho).1
  simp only [busOps, regOps, Tryz.f7, Option.getD_some, reduceIte, Nat.reduceEqDiff] at ho
  have hSx := hI.1.2.1
  have HSX := Lib.hid hSx
  obtain ⟨hT, ⟨v, T, hZ, _, _, _⟩, ⟨lA, hA, hA1, hA2⟩, ⟨lS, hS0, hS1, hS2⟩, _⟩ := hSx
  have HA1 := Lib.hid hA1
  have HS1 := Lib.hid hS1
  clear hA1 hS1
  have s0 := (hI.slot 0 (by kernel_rfl)).trans a0
  have s7 := (hI.slot 7 (by kernel_rfl)).trans a7
  have s8 := (hI.slot 8 (by kernel_rfl)).trans a8
  have s9 := (hI.slot 9 (by kernel_rfl)).trans a9
  have s11 := (hI.slot 11 (by kernel_rfl)).trans a11
  simp only [Array.getD_eq_getD_getElem?] at s0 s7 s8 s9 s11
  have hic : i = 0 ∨ i = 1 ∨ i = 2 ∨ i = 3 ∨ i = 4 ∨ i = 5 ∨ i = 6 ∨ i = 7 ∨ i = 8 ∨ i = 9 ∨ i = 10 ∨ i = 11 ∨ i = 12 ∨ i = 13 ∨ i = 14 ∨ i = 15 ∨ i = 16 ∨ i = 17 ∨ i = 18 ∨ i = 19 ∨ i = 20 ∨ i = 21 ∨ i = 22 ∨ i = 23 ∨ i = 24 ∨ i = 25 ∨ i = 26 ∨ i = 27 ∨ i = 28 := by omega
  rcases hic with rfl | rfl | rfl | rfl | rfl | rfl | rfl | rfl | rfl | rfl | rfl | rfl | rfl | rfl | rfl | rfl | rfl | rfl | rfl | rfl | rfl | rfl | rfl | rfl | rfl | rfl | rfl | rfl | rfl
  all_goals cases ho
  · have q0 : l.getD 27 false = false := hI.1.2.2.1.2.unlisted hl (by kernel_rfl)
    have q1 : l.getD 28 false = false := hI.1.2.2.1.2.unlisted q0 (by kernel_rfl)
    have sc := (hI.2 28 13 rfl q1).trans aac
    simp only [Array.getD_eq_getD_getElem?] at sc
    go_simp
    exact hK' _ _ (hI.step bus28a 0 129 rfl (by rw [hsz]; decide) _ _ rfl hall HSX.out (fun _ _ h => h) rfl)
  · go_simp
    exact hK' _ _ (hI.step bus28a 1 130 rfl (by rw [hsz]; decide) _ _ rfl hall HSX.out (fun _ _ h => h) rfl)
  · go_simp
    have hb2 : Below wx.heap.size wx (wx.alloc (.cells #[.int .i64 0, .int .i64 0, .int .i64 16, .int .i64 4096] 3)) := (Below.refl _ _).alloc (Nat.le_refl _) _
    have k2 := Keeps.of_fresh hb2 (fun i => i = b)
    have ht2 := hT.new hb2
    have hS2 := BusS.call HSX.out hZb k2 ht2
    exact hK' _ _ (hI.step bus28a 2 131 rfl (by rw [hsz]; decide) _ _ rfl hall hS2 (fun j u h => F28.stable j u _ _ hT ⟨_, hZ⟩ (k2.mono (fun _ _ e => Or.inl e)) h) ⟨_, [0, 0, 16, 4096], rfl, Holds.new _ _ _, rfl⟩)
  · have ea : c.tmps.getD 130 undef = .pointer (some ⟨b, 0, none⟩) := hI.fact 1 130 rfl (listed hall 1 (by kernel_rfl))
    simp only [Array.getD_eq_getD_getElem?] at ea
    obtain ⟨N, l, eb, hN, rfl⟩ : RowV (fun l => l = [0, 0, 16, 4096]) (c.tmps.getD 131 undef) wx := hI.fact 2 131 rfl (listed hall 2 (by kernel_rfl))
    simp only [Array.getD_eq_getD_getElem?] at eb
    have hNb := row_ne_tape hN hT
    go_simp
    refine (mk_Pick B b N 0 _ [0, 0, 16, 4096] wx hT (by simp) (by simp) hNb (fun i hi => row_at hN i hi)).mono ?_
    rintro e w2 ⟨r, rfl, hr, ht2, k2⟩
    have hr2 : 0 ≤ r ∧ r ≤ 2147483648 := by simp at hr; omega
    go_simp
    have hS2 := BusS.call HSX.out hZb k2 ht2
    exact hK' _ _ (hI.step bus28a 3 132 rfl (by rw [hsz]; decide) _ _ rfl hall hS2 (fun j u h => F28.stable j u _ _ hT ⟨_, hZ⟩ (k2.mono (fun _ _ e => Or.inl e)) h) ⟨r, rfl, hr2⟩)
  · go_simp
    exact hK' _ _ (hI.step bus28a 4 133 rfl (by rw [hsz]; decide) _ _ rfl hall HSX.out (fun _ _ h => h) rfl)
  · go_simp
    exact hK' _ _ (hI.step bus28a 5 134 rfl (by rw [hsz]; decide) _ _ rfl hall HSX.out (fun _ _ h => h) rfl)
  · have ea : c.tmps.getD 133 undef = .slice (some ⟨gA, 0, none⟩) n n := hI.fact 4 133 rfl (listed hall 4 (by kernel_rfl))
    simp only [Array.getD_eq_getD_getElem?] at ea
    have eb : c.tmps.getD 134 undef = .int .i64 k := hI.fact 5 134 rfl (listed hall 5 (by kernel_rfl))
    simp only [Array.getD_eq_getD_getElem?] at eb
    go_simp
    exact hK' _ _ (hI.step bus28a 6 135 rfl (by rw [hsz]; decide) _ _ rfl hall HSX.out (fun _ _ h => h) rfl)
  · have ea : c.tmps.getD 135 undef = .pointer (some ⟨gA, k, none⟩) := hI.fact 6 135 rfl (listed hall 6 (by kernel_rfl))
    simp only [Array.getD_eq_getD_getElem?] at ea
    have hkl : k < lA.length := by rw [HA1.out]; exact hk
    have hc : wx.cell? ⟨gA, k, none⟩ = some (.int .i64 (lA[k]'hkl)) := by rw [hA.cell k]; simp [hkl]
    go_simp
    exact hK' _ _ (hI.step bus28a 7 136 rfl (by rw [hsz]; decide) _ _ rfl hall HSX.out (fun _ _ h => h) ⟨_, rfl, hA2 _ (List.getElem_mem hkl)⟩)
  · obtain ⟨x, ea, hx1, hx2⟩ : NumV (fun x => 0 ≤ x ∧ x ≤ 2147483648) (c.tmps.getD 132 undef) wx := hI.fact 3 132 rfl (listed hall 3 (by kernel_rfl))
    simp only [Array.getD_eq_getD_getElem?] at ea
    obtain ⟨y, eb, hy⟩ : NumV (fun x => x = 0 ∨ x = 1 ∨ x = 2) (c.tmps.getD 136 undef) wx := hI.fact 7 136 rfl (listed hall 7 (by kernel_rfl))
    simp only [Array.getD_eq_getD_getElem?] at eb
    go_simp
    refine (grow_wide x y wx hx1 (by omega) (Or.inr (by omega))).mono ?_
    rintro e w2 ⟨rfl, hb2⟩
    go_simp
    have k2 := Keeps.of_fresh hb2 (fun i => i = b)
    have ht2 := hT.new hb2
    have hS2 := BusS.call HSX.out hZb k2 ht2
    exact hK' _ _ (hI.step bus28a 8 137 rfl (by rw [hsz]; decide) _ _ rfl hall hS2 (fun j u h => F28.stable j u _ _ hT ⟨_, hZ⟩ (k2.mono (fun _ _ e => Or.inl e)) h) ⟨_, rfl, wide_size _ _⟩)
  · go_simp
    exact hK' _ _ (hI.step bus28a 9 138 rfl (by rw [hsz]; decide) _ _ rfl hall HSX.out (fun _ _ h => h) rfl)
  · go_simp
    have hb2 : Below wx.heap.size wx (wx.alloc (.cells #[.int .i64 4096, .int .i64 65536, .int .i64 0, .int .i64 2147483648] 3)) := (Below.refl _ _).alloc (Nat.le_refl _) _
    have k2 := Keeps.of_fresh hb2 (fun i => i = b)
    have ht2 := hT.new hb2
    have hS2 := BusS.call HSX.out hZb k2 ht2
    exact hK' _ _ (hI.step bus28a 10 139 rfl (by rw [hsz]; decide) _ _ rfl hall hS2 (fun j u h => F28.stable j u _ _ hT ⟨_, hZ⟩ (k2.mono (fun _ _ e => Or.inl e)) h) ⟨_, [4096, 65536, 0, 2147483648], rfl, Holds.new _ _ _, rfl⟩)
  · have ea : c.tmps.getD 138 undef = .pointer (some ⟨b, 0, none⟩) := hI.fact 9 138 rfl (listed hall 9 (by kernel_rfl))
    simp only [Array.getD_eq_getD_getElem?] at ea
    obtain ⟨N, l, eb, hN, rfl⟩ : RowV (fun l => l = [4096, 65536, 0, 2147483648]) (c.tmps.getD 139 undef) wx := hI.fact 10 139 rfl (listed hall 10 (by kernel_rfl))
    simp only [Array.getD_eq_getD_getElem?] at eb
    have hNb := row_ne_tape hN hT
    go_simp
    refine (mk_Pick B b N 0 _ [4096, 65536, 0, 2147483648] wx hT (by simp) (by simp) hNb (fun i hi => row_at hN i hi)).mono ?_
    rintro e w2 ⟨r, rfl, hr, ht2, k2⟩
    have hr2 : 0 ≤ r ∧ r ≤ 2147483648 := by simp at hr; omega
    go_simp
    have hS2 := BusS.call HSX.out hZb k2 ht2
    exact hK' _ _ (hI.step bus28a 11 140 rfl (by rw [hsz]; decide) _ _ rfl hall hS2 (fun j u h => F28.stable j u _ _ hT ⟨_, hZ⟩ (k2.mono (fun _ _ e => Or.inl e)) h) ⟨r, rfl, hr2⟩)
  · go_simp
    exact hK' _ _ (hI.step bus28a 12 141 rfl (by rw [hsz]; decide) _ _ rfl hall HSX.out (fun _ _ h => h) rfl)
  · go_simp
    exact hK' _ _ (hI.step bus28a 13 142 rfl (by rw [hsz]; decide) _ _ rfl hall HSX.out (fun _ _ h => h) rfl)
  · have ea : c.tmps.getD 141 undef = .slice (some ⟨gA, 0, none⟩) n n := hI.fact 12 141 rfl (listed hall 12 (by kernel_rfl))
    simp only [Array.getD_eq_getD_getElem?] at ea
    have eb : c.tmps.getD 142 undef = .int .i64 i1 := hI.fact 13 142 rfl (listed hall 13 (by kernel_rfl))
    simp only [Array.getD_eq_getD_getElem?] at eb
    go_simp
    exact hK' _ _ (hI.step bus28a 14 143 rfl (by rw [hsz]; decide) _ _ rfl hall HSX.out (fun _ _ h => h) rfl)
  · have ea : c.tmps.getD 143 undef = .pointer (some ⟨gA, i1, none⟩) := hI.fact 14 143 rfl (listed hall 14 (by kernel_rfl))
    simp only [Array.getD_eq_getD_getElem?] at ea
    have hkl : i1 < lA.length := by rw [HA1.out]; exact hi1
    have hc : wx.cell? ⟨gA, i1, none⟩ = some (.int .i64 (lA[i1]'hkl)) := by rw [hA.cell i1]; simp [hkl]
    go_simp
    exact hK' _ _ (hI.step bus28a 15 144 rfl (by rw [hsz]; decide) _ _ rfl hall HSX.out (fun _ _ h => h) ⟨_, rfl, hA2 _ (List.getElem_mem hkl)⟩)
  · obtain ⟨x, ea, hx1, hx2⟩ : NumV (fun x => 0 ≤ x ∧ x ≤ 2147483648) (c.tmps.getD 140 undef) wx := hI.fact 11 140 rfl (listed hall 11 (by kernel_rfl))
    simp only [Array.getD_eq_getD_getElem?] at ea
    obtain ⟨y, eb, hy⟩ : NumV (fun x => x = 0 ∨ x = 1 ∨ x = 2) (c.tmps.getD 144 undef) wx := hI.fact 15 144 rfl (listed hall 15 (by kernel_rfl))
    simp only [Array.getD_eq_getD_getElem?] at eb
    go_simp
    refine (grow_wide x y wx hx1 (by omega) (Or.inr (by omega))).mono ?_
    rintro e w2 ⟨rfl, hb2⟩
    go_simp
    have k2 := Keeps.of_fresh hb2 (fun i => i = b)
    have ht2 := hT.new hb2
    have hS2 := BusS.call HSX.out hZb k2 ht2
    exact hK' _ _ (hI.step bus28a 16 145 rfl (by rw [hsz]; decide) _ _ rfl hall hS2 (fun j u h => F28.stable j u _ _ hT ⟨_, hZ⟩ (k2.mono (fun _ _ e => Or.inl e)) h) ⟨_, rfl, wide_size _ _⟩)
  · obtain ⟨s', ea, hs'⟩ : StrV 8 (c.tmps.getD 137 undef) wx := hI.fact 8 137 rfl (listed hall 8 (by kernel_rfl))
    simp only [Array.getD_eq_getD_getElem?] at ea
    obtain ⟨t, eb, ht⟩ : StrV 8 (c.tmps.getD 145 undef) wx := hI.fact 16 145 rfl (listed hall 16 (by kernel_rfl))
    simp only [Array.getD_eq_getD_getElem?] at eb
    obtain ⟨ad, hA3, hA4⟩ := addsG_ex s' t (by omega)
    have hx : ad.size ≤ 8 + 8 := by omega
    unfold AddsG at hA3
    go_simp
    exact hK' _ _ (hI.step bus28a 17 146 rfl (by rw [hsz]; decide) _ _ rfl hall HSX.out (fun _ _ h => h) ⟨_, rfl, hx⟩)
  · go_simp
    exact hK' _ _ (hI.step bus28a 18 147 rfl (by rw [hsz]; decide) _ _ rfl hall HSX.out (fun _ _ h => h) rfl)
  · go_simp
    have hb2 : Below wx.heap.size wx (wx.alloc (.cells #[.int .i64 256, .int .i64 4096, .int .i64 8192, .int .i64 1] 3)) := (Below.refl _ _).alloc (Nat.le_refl _) _
    have k2 := Keeps.of_fresh hb2 (fun i => i = b)
    have ht2 := hT.new hb2
    have hS2 := BusS.call HSX.out hZb k2 ht2
    exact hK' _ _ (hI.step bus28a 19 148 rfl (by rw [hsz]; decide) _ _ rfl hall hS2 (fun j u h => F28.stable j u _ _ hT ⟨_, hZ⟩ (k2.mono (fun _ _ e => Or.inl e)) h) ⟨_, [256, 4096, 8192, 1], rfl, Holds.new _ _ _, rfl⟩)
  · have ea : c.tmps.getD 147 undef = .pointer (some ⟨b, 0, none⟩) := hI.fact 18 147 rfl (listed hall 18 (by kernel_rfl))
    simp only [Array.getD_eq_getD_getElem?] at ea
    obtain ⟨N, l, eb, hN, rfl⟩ : RowV (fun l => l = [256, 4096, 8192, 1]) (c.tmps.getD 148 undef) wx := hI.fact 19 148 rfl (listed hall 19 (by kernel_rfl))
    simp only [Array.getD_eq_getD_getElem?] at eb
    have hNb := row_ne_tape hN hT
    go_simp
    refine (mk_Pick B b N 0 _ [256, 4096, 8192, 1] wx hT (by simp) (by simp) hNb (fun i hi => row_at hN i hi)).mono ?_
    rintro e w2 ⟨r, rfl, hr, ht2, k2⟩
    have hr2 : 0 ≤ r ∧ r ≤ 2147483648 := by simp at hr; omega
    go_simp
    have hS2 := BusS.call HSX.out hZb k2 ht2
    exact hK' _ _ (hI.step bus28a 20 149 rfl (by rw [hsz]; decide) _ _ rfl hall hS2 (fun j u h => F28.stable j u _ _ hT ⟨_, hZ⟩ (k2.mono (fun _ _ e => Or.inl e)) h) ⟨r, rfl, hr2⟩)
  · go_simp
    exact hK' _ _ (hI.step bus28a 21 150 rfl (by rw [hsz]; decide) _ _ rfl hall HSX.out (fun _ _ h => h) rfl)
  · go_simp
    exact hK' _ _ (hI.step bus28a 22 151 rfl (by rw [hsz]; decide) _ _ rfl hall HSX.out (fun _ _ h => h) rfl)
  · have ea : c.tmps.getD 150 undef = .slice (some ⟨gS, 0, none⟩) n n := hI.fact 21 150 rfl (listed hall 21 (by kernel_rfl))
    simp only [Array.getD_eq_getD_getElem?] at ea
    have eb : c.tmps.getD 151 undef = .int .i64 k := hI.fact 22 151 rfl (listed hall 22 (by kernel_rfl))
    simp only [Array.getD_eq_getD_getElem?] at eb
    go_simp
    exact hK' _ _ (hI.step bus28a 23 152 rfl (by rw [hsz]; decide) _ _ rfl hall HSX.out (fun _ _ h => h) rfl)
  · have ea : c.tmps.getD 152 undef = .pointer (some ⟨gS, k, none⟩) := hI.fact 23 152 rfl (listed hall 23 (by kernel_rfl))
    simp only [Array.getD_eq_getD_getElem?] at ea
    have hkl : k < lS.length := by rw [HS1.out]; exact hk
    have hc : wx.cell? ⟨gS, k, none⟩ = some (.int .i64 (lS[k]'hkl)) := by rw [hS0.cell k]; simp [hkl]
    go_simp
    exact hK' _ _ (hI.step bus28a 24 153 rfl (by rw [hsz]; decide) _ _ rfl hall HSX.out (fun _ _ h => h) ⟨_, rfl, hS2 _ (List.getElem_mem hkl)⟩)
  · obtain ⟨x, ea, hx1, hx2⟩ : NumV (fun x => 0 ≤ x ∧ x ≤ 2147483648) (c.tmps.getD 149 undef) wx := hI.fact 20 149 rfl (listed hall 20 (by kernel_rfl))
    simp only [Array.getD_eq_getD_getElem?] at ea
    obtain ⟨y, eb, hy⟩ : NumV (fun x => x = 0 ∨ x = 1 ∨ x = 2) (c.tmps.getD 153 undef) wx := hI.fact 24 153 rfl (listed hall 24 (by kernel_rfl))
    simp only [Array.getD_eq_getD_getElem?] at eb
    go_simp
    refine (grow_wide x y wx hx1 (by omega) (Or.inr (by omega))).mono ?_
    rintro e w2 ⟨rfl, hb2⟩
    go_simp
    have k2 := Keeps.of_fresh hb2 (fun i => i = b)
    have ht2 := hT.new hb2
    have hS2 := BusS.call HSX.out hZb k2 ht2
    exact hK' _ _ (hI.step bus28a 25 154 rfl (by rw [hsz]; decide) _ _ rfl hall hS2 (fun j u h => F28.stable j u _ _ hT ⟨_, hZ⟩ (k2.mono (fun _ _ e => Or.inl e)) h) ⟨_, rfl, wide_size _ _⟩)
  · obtain ⟨s', ea, hs'⟩ : StrV (8 + 8) (c.tmps.getD 146 undef) wx := hI.fact 17 146 rfl (listed hall 17 (by kernel_rfl))
    simp only [Array.getD_eq_getD_getElem?] at ea
    obtain ⟨t, eb, ht⟩ : StrV 8 (c.tmps.getD 154 undef) wx := hI.fact 25 154 rfl (listed hall 25 (by kernel_rfl))
    simp only [Array.getD_eq_getD_getElem?] at eb
    obtain ⟨ad, hA3, hA4⟩ := addsG_ex s' t (by omega)
    have hx : ad.size ≤ 16 + 8 := by omega
    unfold AddsG at hA3
    go_simp
    exact hK' _ _ (hI.step bus28a 26 155 rfl (by rw [hsz]; decide) _ _ rfl hall HSX.out (fun _ _ h => h) ⟨_, rfl, hx⟩)
  · have ea : c.tmps.getD 129 undef = .string s := hI.fact 0 129 rfl (listed hall 0 (by kernel_rfl))
    simp only [Array.getD_eq_getD_getElem?] at ea
    obtain ⟨t, eb, ht⟩ : StrV (16 + 8) (c.tmps.getD 155 undef) wx := hI.fact 26 155 rfl (listed hall 26 (by kernel_rfl))
    simp only [Array.getD_eq_getD_getElem?] at eb
    obtain ⟨ad, hA3, hA4⟩ := addsG_ex s t (by omega)
    have hx : ad.size ≤ M + 24 := by omega
    unfold AddsG at hA3
    go_simp
    exact hK' _ _ (hI.step bus28a 27 156 rfl (by rw [hsz]; decide) _ _ rfl hall HSX.out (fun _ _ h => h) ⟨_, rfl, hx⟩)
  · obtain ⟨t, ea, ht⟩ : StrV (M + 24) (c.tmps.getD 156 undef) wx := hI.fact 27 156 rfl (listed hall 27 (by kernel_rfl))
    simp only [Array.getD_eq_getD_getElem?] at ea
    go_simp
    exact hK' _ _ (hI.step bus28a 28 13 rfl (by rw [hsz]; decide) _ _ rfl hall HSX.out (fun _ _ h => h) ⟨_, rfl, ht⟩)
end Go.Proofs.YthkoaakicdhnpaaGreat

namespace Go.Proofs.YthkoaakicdhnpaaGreat
open Go.RowKit

set_option maxHeartbeats 4000000 in
set_option maxRecDepth 100000 in
theorem bus_blk4 {Q : Exit → Act → World → Prop} (B b base Z N gA gS : Nat) (w1 w : World) (hZ1b : Z ≠ b) (_hbs : base ≤ w1.heap.size) (_hZB : B ≤ Z) (_hl2 : N ≤ 1000) (_hgA : w1.heap.size ≤ gA) (_hgS : w1.heap.size ≤ gS) (_hBA : B ≤ gA) (_hBS : B ≤ gS) (k i1 : Nat) (hlt : k < N) (hi1 : i1 < N) (q : Int) (hq0 : 0 ≤ q) (hq1 : q < 3) {u1 u2 u3 u4 u6 u10 u13 u15 u16 u17 u18 u19 u20 u21 u22 u23 u24 u25 u26 u27 u28 u29 u30 u31 u32 u33 u34 u35 u36 u37 u38 u39 u40 u41 u42 u43 u44 u45 u46 u47 u48 u49 u50 u51 u52 u53 u54 u55 u56 u57 u58 u59 u60 u61 u62 u63 u64 u65 u66 u67 u68 u69 u70 u71 u72 u73 u74 u75 u76 u77 u78 u79 u80 u81 u82 u83 u84 u85 u86 u87 u88 u89 u90 u91 u92 u93 u94 u95 u96 u97 u98 u99 u100 u101 u102 u103 u104 u105 u106 u107 u108 u109 u110 u111 u112 u113 u114 u115 u116 u117 u118 u119 u120 u121 u122 u123 u124 u125 u126 u127 u128 u129 u130 u131 u132 u133 u134 u135 u136 u137 u138 u139 u140 u141 u142 u143 u144 u145 u146 u147 u148 u149 u150 u151 u152 u153 u154 u155 u156 u157 u158 u159 u160 u161 u162 u163 u164 u165 u166 u167 u168 u169 u170 u171 u172 u173 u174 u175 u176 u177 u178 u179 u180 u181 u182 u183 u184 u185 u186 u187 u188 u189 u190 u191 u192 u193 u194 u195 u196 u197 u198 u199 u200 u201 u202 : Value}
    (hB : Hid (BusS B b base Z N gA gS w1 w)) (hQ : Hid (∀ (x12 x14 x98 x99 x100 x101 x102 x103 x104 x105 x106 x107 x108 x109 x110 x111 x112 x113 x114 x115 x116 x117 x118 x119 x120 x121 x122 : Value) (wx : World), (∃ t : ByteArray, x12 = .string t ∧ t.size ≤ 200) ∧ BusS B b base Z N gA gS w1 wx → Q .normal ⟨#[.pointer (some ⟨b, 0, none⟩), u1, u2, u3, u4, .pointer (some ⟨Z, 0, none⟩), u6, .slice (some ⟨gA, 0, none⟩) N N, .slice (some ⟨gS, 0, none⟩) N N, .int .i64 k, u10, .int .i64 i1, x12, u13, x14, u15, u16, u17, u18, u19, u20, u21, u22, u23, u24, u25, u26, u27, u28, u29, u30, u31, u32, u33, u34, u35, u36, u37, u38, u39, u40, u41, u42, u43, u44, u45, u46, u47, u48, u49, u50, u51, u52, u53, u54, u55, u56, u57, u58, u59, u60, u61, u62, u63, u64, u65, u66, u67, u68, u69, u70, u71, u72, u73, u74, u75, u76, u77, u78, u79, u80, u81, u82, u83, u84, u85, u86, u87, u88, u89, u90, u91, u92, u93, u94, u95, u96, u97, x98, x99, x100, x101, x102, x103, x104, x105, x106, x107, x108, x109, x110, x111, x112, x113, x114, x115, x116, x117, x118, x119, x120, x121, x122, u123, u124, u125, u126, u127, u128, u129, u130, u131, u132, u133, u134, u135, u136, u137, u138, u139, u140, u141, u142, u143, u144, u145, u146, u147, u148, u149, u150, u151, u152, u153, u154, u155, u156, u157, u158, u159, u160, u161, u162, u163, u164, u165, u166, u167, u168, u169, u170, u171, u172, u173, u174, u175, u176, u177, u178, u179, u180, u181, u182, u183, u184, u185, u186, u187, u188, u189, u190, u191, u192, u193, u194, u195, u196, u197, u198, u199, u200, u201, u202], []⟩ wx)) :
    (busBlk 4).wp Tryz.prog Q ⟨#[.pointer (some ⟨b, 0, none⟩), u1, u2, u3, u4, .pointer (some ⟨Z, 0, none⟩), u6, .slice (some ⟨gA, 0, none⟩) N N, .slice (some ⟨gS, 0, none⟩) N N, .int .i64 k, u10, .int .i64 i1, .string ⟨#[]⟩, u13, .int .i64 q, u15, u16, u17, u18, u19, u20, u21, u22, u23, u24, u25, u26, u27, u28, u29, u30, u31, u32, u33, u34, u35, u36, u37, u38, u39, u40, u41, u42, u43, u44, u45, u46, u47, u48, u49, u50, u51, u52, u53, u54, u55, u56, u57, u58, u59, u60, u61, u62, u63, u64, u65, u66, u67, u68, u69, u70, u71, u72, u73, u74, u75, u76, u77, u78, u79, u80, u81, u82, u83, u84, u85, u86, u87, u88, u89, u90, u91, u92, u93, u94, u95, u96, u97, u98, u99, u100, u101, u102, u103, u104, u105, u106, u107, u108, u109, u110, u111, u112, u113, u114, u115, u116, u117, u118, u119, u120, u121, u122, u123, u124, u125, u126, u127, u128, u129, u130, u131, u132, u133, u134, u135, u136, u137, u138, u139, u140, u141, u142, u143, u144, u145, u146, u147, u148, u149, u150, u151, u152, u153, u154, u155, u156, u157, u158, u159, u160, u161, u162, u163, u164, u165, u166, u167, u168, u169, u170, u171, u172, u173, u174, u175, u176, u177, u178, u179, u180, u181, u182, u183, u184, u185, u186, u187, u188, u189, u190, u191, u192, u193, u194, u195, u196, u197, u198, u199, u200, u201, u202], []⟩ w := by
  simp only [busBlk, blkOf, Tryz.f7, Option.getD_some, reduceIte, Nat.reduceEqDiff]
  go_wp2_with fail
  go_loopg [12, 14] 3 (fun f x y wr => ∃ (t : ByteArray) (c : Int), x = .string t ∧ y = .int .i64 c ∧ 0 ≤ c ∧ c.toNat ≤ f ∧ t.size + 16 * c.toNat ≤ 200 ∧ BusS B b base Z N gA gS w1 wr)
  case atStart => exact ⟨⟨#[]⟩, q, rfl, rfl, hq0, by omega, (by show 0 + 16 * (q).toNat ≤ 200; omega), hB.out⟩
  case round =>
    clear hB
    obtain ⟨t, cc, rfl, rfl, hc0, hcf, hct, hB⟩ := hrel
    have HB := Lib.hid hB
    clear hB
    by_cases hc : 0 < cc
    · go_wp2_with fail
      refine wp_region_any (by kernel_rfl) ?_
      refine wpAny_ops (ops' := busOps 24) (by kernel_rfl) ?_
      refine bus_region24 B b base Z N gA gS k i1 t.size t w1 _ _ rfl hZ1b hlt hi1 (Nat.le_refl _) (by omega) rfl rfl rfl rfl rfl rfl (by exact HB.out.drew hZ1b) ?_
      intro c wn hsb hBn hst
      obtain ⟨t2, ht2, hts⟩ := hst
      have HT2 := Lib.hid ht2
      have HBn := Lib.hid hBn
      clear ht2 hBn
      obtain ⟨y102, y103, y104, y105, y106, y107, y108, y109, y110, y111, y112, y113, y114, y115, y116, y117, y118, y119, y120, y121, y122, hc⟩ := hsb.exAt [102, 103, 104, 105, 106, 107, 108, 109, 110, 111, 112, 113, 114, 115, 116, 117, 118, 119, 120, 121, 122] 12 (by kernel_rfl)
      rw [HT2.out] at hc
      subst hc
      clear HT2 hsb HB
      simp only [List.setIfInBounds_toArray, List.set_cons_zero, List.set_cons_succ]
      go_wp2_with fail
      go_roundg (cc - 1).toNat
      case measure => omega
      case rel => exact ⟨t2, cc - 1, rfl, rfl, by omega, by omega, by omega, HBn.out⟩
    · have hcz : ¬ cc > 0 := by omega
      go_wp2_with fail
      exact hQ.out _ _ _ _ _ _ _ _ _ _ _ _ _ _ _ _ _ _ _ _ _ _ _ _ _ _ _ _ ⟨⟨t, rfl, by omega⟩, HB.out⟩

set_option maxHeartbeats 4000000 in
set_option maxRecDepth 100000 in
theorem bus_blk6 {Q : Exit → Act → World → Prop} (B b base Z N gA gS : Nat) (w1 w : World) (hZ1b : Z ≠ b) (_hbs : base ≤ w1.heap.size) (_hZB : B ≤ Z) (_hl2 : N ≤ 1000) (_hgA : w1.heap.size ≤ gA) (_hgS : w1.heap.size ≤ gS) (_hBA : B ≤ gA) (_hBS : B ≤ gS) (k i1 : Nat) (hlt : k < N) (hi1 : i1 < N) (q : Int) (hq0 : 0 ≤ q) (hq1 : q < 3) {u1 u2 u3 u4 u6 u10 u12 u14 u16 u17 u18 u19 u20 u21 u22 u23 u24 u25 u26 u27 u28 u29 u30 u31 u32 u33 u34 u35 u36 u37 u38 u39 u40 u41 u42 u43 u44 u45 u46 u47 u48 u49 u50 u51 u52 u53 u54 u55 u56 u57 u58 u59 u60 u61 u62 u63 u64 u65 u66 u67 u68 u69 u70 u71 u72 u73 u74 u75 u76 u77 u78 u79 u80 u81 u82 u83 u84 u85 u86 u87 u88 u89 u90 u91 u92 u93 u94 u95 u96 u97 u98 u99 u100 u101 u102 u103 u104 u105 u106 u107 u108 u109 u110 u111 u112 u113 u114 u115 u116 u117 u118 u119 u120 u121 u122 u123 u124 u125 u126 u127 u128 u129 u130 u131 u132 u133 u134 u135 u136 u137 u138 u139 u140 u141 u142 u143 u144 u145 u146 u147 u148 u149 u150 u151 u152 u153 u154 u155 u156 u157 u158 u159 u160 u161 u162 u163 u164 u165 u166 u167 u168 u169 u170 u171 u172 u173 u174 u175 u176 u177 u178 u179 u180 u181 u182 u183 u184 u185 u186 u187 u188 u189 u190 u191 u192 u193 u194 u195 u196 u197 u198 u199 u200 u201 u202 : Value}
    (hB : Hid (BusS B b base Z N gA gS w1 w)) (hQ : Hid (∀ (x13 x15 x125 x126 x127 x128 x129 x130 x131 x132 x133 x134 x135 x136 x137 x138 x139 x140 x141 x142 x143 x144 x145 x146 x147 x148 x149 x150 x151 x152 x153 x154 x155 x156 : Value) (wx : World), (∃ t : ByteArray, x13 = .string t ∧ t.size ≤ 200) ∧ BusS B b base Z N gA gS w1 wx → Q .normal ⟨#[.pointer (some ⟨b, 0, none⟩), u1, u2, u3, u4, .pointer (some ⟨Z, 0, none⟩), u6, .slice (some ⟨gA, 0, none⟩) N N, .slice (some ⟨gS, 0, none⟩) N N, .int .i64 k, u10, .int .i64 i1, u12, x13, u14, x15, u16, u17, u18, u19, u20, u21, u22, u23, u24, u25, u26, u27, u28, u29, u30, u31, u32, u33, u34, u35, u36, u37, u38, u39, u40, u41, u42, u43, u44, u45, u46, u47, u48, u49, u50, u51, u52, u53, u54, u55, u56, u57, u58, u59, u60, u61, u62, u63, u64, u65, u66, u67, u68, u69, u70, u71, u72, u73, u74, u75, u76, u77, u78, u79, u80, u81, u82, u83, u84, u85, u86, u87, u88, u89, u90, u91, u92, u93, u94, u95, u96, u97, u98, u99, u100, u101, u102, u103, u104, u105, u106, u107, u108, u109, u110, u111, u112, u113, u114, u115, u116, u117, u118, u119, u120, u121, u122, u123, u124, x125, x126, x127, x128, x129, x130, x131, x132, x133, x134, x135, x136, x137, x138, x139, x140, x141, x142, x143, x144, x145, x146, x147, x148, x149, x150, x151, x152, x153, x154, x155, x156, u157, u158, u159, u160, u161, u162, u163, u164, u165, u166, u167, u168, u169, u170, u171, u172, u173, u174, u175, u176, u177, u178, u179, u180, u181, u182, u183, u184, u185, u186, u187, u188, u189, u190, u191, u192, u193, u194, u195, u196, u197, u198, u199, u200, u201, u202], []⟩ wx)) :
    (busBlk 6).wp Tryz.prog Q ⟨#[.pointer (some ⟨b, 0, none⟩), u1, u2, u3, u4, .pointer (some ⟨Z, 0, none⟩), u6, .slice (some ⟨gA, 0, none⟩) N N, .slice (some ⟨gS, 0, none⟩) N N, .int .i64 k, u10, .int .i64 i1, u12, .string ⟨#[]⟩, u14, .int .i64 q, u16, u17, u18, u19, u20, u21, u22, u23, u24, u25, u26, u27, u28, u29, u30, u31, u32, u33, u34, u35, u36, u37, u38, u39, u40, u41, u42, u43, u44, u45, u46, u47, u48, u49, u50, u51, u52, u53, u54, u55, u56, u57, u58, u59, u60, u61, u62, u63, u64, u65, u66, u67, u68, u69, u70, u71, u72, u73, u74, u75, u76, u77, u78, u79, u80, u81, u82, u83, u84, u85, u86, u87, u88, u89, u90, u91, u92, u93, u94, u95, u96, u97, u98, u99, u100, u101, u102, u103, u104, u105, u106, u107, u108, u109, u110, u111, u112, u113, u114, u115, u116, u117, u118, u119, u120, u121, u122, u123, u124, u125, u126, u127, u128, u129, u130, u131, u132, u133, u134, u135, u136, u137, u138, u139, u140, u141, u142, u143, u144, u145, u146, u147, u148, u149, u150, u151, u152, u153, u154, u155, u156, u157, u158, u159, u160, u161, u162, u163, u164, u165, u166, u167, u168, u169, u170, u171, u172, u173, u174, u175, u176, u177, u178, u179, u180, u181, u182, u183, u184, u185, u186, u187, u188, u189, u190, u191, u192, u193, u194, u195, u196, u197, u198, u199, u200, u201, u202], []⟩ w := by
  simp only [busBlk, blkOf, Tryz.f7, Option.getD_some, reduceIte, Nat.reduceEqDiff]
  go_wp2_with fail
  go_loopg [13, 15] 3 (fun f x y wr => ∃ (t : ByteArray) (c : Int), x = .string t ∧ y = .int .i64 c ∧ 0 ≤ c ∧ c.toNat ≤ f ∧ t.size + 24 * c.toNat ≤ 200 ∧ BusS B b base Z N gA gS w1 wr)
  case atStart => exact ⟨⟨#[]⟩, q, rfl, rfl, hq0, by omega, (by show 0 + 24 * (q).toNat ≤ 200; omega), hB.out⟩
  case round =>
    clear hB
    obtain ⟨t, cc, rfl, rfl, hc0, hcf, hct, hB⟩ := hrel
    have HB := Lib.hid hB
    clear hB
    by_cases hc : 0 < cc
    · go_wp2_with fail
      refine wp_region_any (by kernel_rfl) ?_
      refine wpAny_ops (ops' := busOps 28) (by kernel_rfl) ?_
      refine bus_region28 B b base Z N gA gS k i1 t.size t w1 _ _ rfl hZ1b hlt hi1 (Nat.le_refl _) (by omega) rfl rfl rfl rfl rfl rfl (by exact HB.out.drew hZ1b) ?_
      intro c wn hsb hBn hst
      obtain ⟨t2, ht2, hts⟩ := hst
      have HT2 := Lib.hid ht2
      have HBn := Lib.hid hBn
      clear ht2 hBn
      obtain ⟨y129, y130, y131, y132, y133, y134, y135, y136, y137, y138, y139, y140, y141, y142, y143, y144, y145, y146, y147, y148, y149, y150, y151, y152, y153, y154, y155, y156, hc⟩ := hsb.exAt [129, 130, 131, 132, 133, 134, 135, 136, 137, 138, 139, 140, 141, 142, 143, 144, 145, 146, 147, 148, 149, 150, 151, 152, 153, 154, 155, 156] 13 (by kernel_rfl)
      rw [HT2.out] at hc
      subst hc
      clear HT2 hsb HB
      simp only [List.setIfInBounds_toArray, List.set_cons_zero, List.set_cons_succ]
      go_wp2_with fail
      go_roundg (cc - 1).toNat
      case measure => omega
      case rel => exact ⟨t2, cc - 1, rfl, rfl, by omega, by omega, by omega, HBn.out⟩
    · have hcz : ¬ cc > 0 := by omega
      go_wp2_with fail
      exact hQ.out _ _ _ _ _ _ _ _ _ _ _ _ _ _ _ _ _ _ _ _ _ _ _ _ _ _ _ _ _ _ _ _ _ _ _ ⟨⟨t, rfl, by omega⟩, HB.out⟩
end Go.Proofs.YthkoaakicdhnpaaGreat

namespace Go.Proofs.YthkoaakicdhnpaaGreat
open Go.RowKit

theorem bus36 : inRow2 .any (busOps 36) = true := by kernel_rfl
theorem bus36a : apartB (busOps 36) = true := by kernel_rfl
theorem bus36n : (busOps 36).size = 24 := by kernel_rfl
def StrA (u : Value) (_ : World) : Prop := ∃ s, u = .string s
def StrR (m : Nat) (u : Value) (w : World) : Prop := ∃ (N : Nat) (l : List ByteArray), u = .slice (some ⟨N, 0, none⟩) m m ∧ Holds w N (l.map Value.string).toArray 9 ∧ l.length = m ∧ ∀ x ∈ l, x.size ≤ 100
def StrP (u : Value) (w : World) : Prop := ∃ (N m : Nat) (l : List ByteArray), u = .pointer (some ⟨N, m, none⟩) ∧ Holds w N (l.map Value.string).toArray 9 ∧ m < l.length ∧ ∀ x ∈ l, x.size ≤ 100
theorem str_keeps {B b Z N : Nat} {l : List ByteArray} {w w' : World} (h : Holds w N (l.map Value.string).toArray 9) (ht : Tape B w b) (hz : ∃ v, Holds w Z #[v] 25) (k : Keeps (fun i => i = b ∨ i = Z) w w') : Holds w' N (l.map Value.string).toArray 9 := by
  obtain ⟨cs, hH⟩ := ht.holds
  obtain ⟨z, hz⟩ := hz
  refine h.keeps k ?_
  rintro (rfl | rfl)
  · have := h.symm.trans hH
    injection this with this; injection this with _ this; exact absurd this (by decide)
  · have := h.symm.trans hz
    injection this with this; injection this with _ this; exact absurd this (by decide)
theorem Stable.strA {B b Z : Nat} : Stable B b Z StrA := fun _ _ _ _ _ _ h => h
theorem Stable.strR {B b Z m : Nat} : Stable B b Z (StrR m) := by
  rintro u w w' ht hz k ⟨N, l, e, h, h2, h3⟩
  exact ⟨N, l, e, str_keeps h ht hz k, h2, h3⟩
theorem Stable.strP {B b Z : Nat} : Stable B b Z StrP := by
  rintro u w w' ht hz k ⟨N, m, l, e, h, h2, h3⟩
  exact ⟨N, m, l, e, str_keeps h ht hz k, h2, h3⟩
theorem five {a b c d : ByteArray} (h1 : a.size ≤ 100) (h2 : b.size ≤ 100) (h3 : c.size ≤ 100) (h4 : d.size ≤ 100) : ∀ x ∈ [a, b, c, ⟨#[97, 0]⟩, d], x.size ≤ 100 := by
  intro x hx
  simp only [List.mem_cons, List.not_mem_nil, or_false] at hx
  rcases hx with rfl | rfl | rfl | rfl | rfl
  · exact h1
  · exact h2
  · exact h3
  · decide
  · exact h4
def F36 (b base n : Nat) (z : Int) (j : Nat) : Value → World → Prop := match j with
  | 0 => TreeV base n
  | 1 => TreeV base n
  | 2 => fun u _ => u = .int .i64 z
  | 3 => StrA
  | 4 => StrR 4
  | 5 => fun u _ => u = .pointer (some ⟨b, 0, none⟩)
  | 6 => NumV fun x => 0 ≤ x ∧ x < 4
  | 7 => StrP
  | 8 => StrV 100
  | 9 => RowV fun l => l = [3]
  | 10 => StrV 100
  | 11 => RowV fun l => l = [1]
  | 12 => StrV 100
  | 13 => RowV fun l => l = [4294967295, 4294967295, 1]
  | 14 => StrV 100
  | 15 => RowV fun l => l = [0, 1, 2, 3]
  | 16 => StrV 100
  | 17 => StrR 5
  | 18 => fun u _ => u = .pointer (some ⟨b, 0, none⟩)
  | 19 => NumV fun x => 0 ≤ x ∧ x < 5
  | 20 => StrP
  | 21 => StrV 100
  | 22 => TreeV base n
  | _ => fun _ _ => True
theorem F36.stable {B b Z base n : Nat} {z : Int} (j : Nat) : Stable B b Z (F36 b base n z j) := by
  unfold F36
  split
  · exact Stable.tree
  · exact Stable.tree
  · exact Stable.const
  · exact Stable.strA
  · exact Stable.strR
  · exact Stable.const
  · exact Stable.num
  · exact Stable.strP
  · exact Stable.str
  · exact Stable.row
  · exact Stable.str
  · exact Stable.row
  · exact Stable.str
  · exact Stable.row
  · exact Stable.str
  · exact Stable.row
  · exact Stable.str
  · exact Stable.strR
  · exact Stable.const
  · exact Stable.num
  · exact Stable.strP
  · exact Stable.str
  · exact Stable.tree
  · exact Stable.const

set_option maxHeartbeats 4000000 in
set_option maxRecDepth 100000 in
theorem bus_region36 {Q : Exit → Act → World → Prop} (B b base Z n gA gS : Nat) (z : Int) (W w : World) (A : Act) (hsz : A.tmps.size = 203) (hZb : Z ≠ b) (hWb : base ≤ W.heap.size) (hZB : B ≤ Z)
    (a0 : A.tmps.getD 0 undef = .pointer (some ⟨b, 0, none⟩)) (a5 : A.tmps.getD 5 undef = .pointer (some ⟨Z, 0, none⟩)) (a16 : A.tmps.getD 16 undef = .int .i64 z)
    (hS : BusS B b base Z n gA gS W w) (hQ : ∀ c w', SameBut (busOps 36) A c → BusS B b base Z n gA gS W w' → Q .normal c w') :
    wpAny Tryz.prog .any (busOps 36) Q (busOps 36).size (Array.replicate (busOps 36).size false) A w := by
  refine wpAny_inv2 (fun l c wx => RInv (busOps 36) A (F36 b base n z) (BusS B b base Z n gA gS W) l c wx) bus36 (fun l c wx hI _ => hQ c wx hI.1 hI.2.1) ?hstep _ _ _ _ (by simp) (by simp) (RInv.start hS)
  intro l c wx hI i o ho hl hall K' hK'
  have hi13 : i < 24 := by rw [← bus36n]; exact (Array.getElem?_eq_some_iff.1 ho).1
  simp only [busOps, regOps, Tryz.f7, Option.getD_some, reduceIte, Nat.reduceEqDiff] at ho
  have hSx := hI.2.1
  have HSX := Lib.hid hSx
  obtain ⟨hT, ⟨v, T, hZ, hr, hs, hlen⟩, _, _, hkW⟩ := hSx
  obtain ⟨ta, tc, rfl⟩ := hr.slice
  have HL := Lib.hid hlen
  clear hlen
  have hX := hZ.cell 0
  have hXf := hZ.free 0
  have hbx : base ≤ wx.heap.size := Nat.le_trans hWb hkW.size
  have s0 := (hI.slot 0 (by kernel_rfl)).trans a0
  have s5 := (hI.slot 5 (by kernel_rfl)).trans a5
  have s16 := (hI.slot 16 (by kernel_rfl)).trans a16
  simp only [Array.getD_eq_getD_getElem?] at s0 s5 s16
  have hic : i = 0 ∨ i = 1 ∨ i = 2 ∨ i = 3 ∨ i = 4 ∨ i = 5 ∨ i = 6 ∨ i = 7 ∨ i = 8 ∨ i = 9 ∨ i = 10 ∨ i = 11 ∨ i = 12 ∨ i = 13 ∨ i = 14 ∨ i = 15 ∨ i = 16 ∨ i = 17 ∨ i = 18 ∨ i = 19 ∨ i = 20 ∨ i = 21 ∨ i = 22 ∨ i = 23 := by omega
  rcases hic with rfl | rfl | rfl | rfl | rfl | rfl | rfl | rfl | rfl | rfl | rfl | rfl | rfl | rfl | rfl | rfl | rfl | rfl | rfl | rfl | rfl | rfl | rfl | rfl
  all_goals cases ho
  · go_simp
    exact hK' _ _ (hI.step bus36a 0 179 rfl (by rw [hsz]; decide) _ _ rfl hall HSX.out (fun _ _ h => h) ⟨_, T, rfl, hr, hs, HL.out⟩)
  · go_simp
    exact hK' _ _ (hI.step bus36a 1 180 rfl (by rw [hsz]; decide) _ _ rfl hall HSX.out (fun _ _ h => h) ⟨_, T, rfl, hr, hs, HL.out⟩)
  · go_simp
    exact hK' _ _ (hI.step bus36a 2 181 rfl (by rw [hsz]; decide) _ _ rfl hall HSX.out (fun _ _ h => h) rfl)
  · obtain ⟨v0, T0, ea, hr0, hs0, hl0⟩ : TreeV base n (c.tmps.getD 180 undef) wx := hI.fact 1 180 rfl (listed hall 1 (by kernel_rfl))
    simp only [Array.getD_eq_getD_getElem?] at ea
    have eb : c.tmps.getD 181 undef = .int .i64 z := hI.fact 2 181 rfl (listed hall 2 (by kernel_rfl))
    simp only [Array.getD_eq_getD_getElem?] at eb
    clear hl0
    go_simp
    refine (ref3_Path _ v0 T0 z wx hr0.in).mono ?_
    rintro e w2 ⟨rfl, hb2⟩
    go_simp
    have k2 := Keeps.of_fresh hb2 (fun i => i = b)
    have ht2 := hT.new hb2
    have hS2 := BusS.call HSX.out hZb k2 ht2
    exact hK' _ _ (hI.step bus36a 3 182 rfl (by rw [hsz]; decide) _ _ rfl hall hS2 (fun j u h => F36.stable j u _ _ hT ⟨_, hZ⟩ (k2.mono (fun _ _ e => Or.inl e)) h) ⟨_, rfl⟩)
  · go_simp
    have hb2 : Below wx.heap.size wx (wx.alloc (.cells #[.string ⟨#[114, 101, 103]⟩, .string ⟨#[114, 97, 110, 103, 101, 115]⟩, .string ⟨#[35, 97, 100, 100, 114, 101, 115, 115, 45, 99, 101, 108, 108, 115]⟩, .string ⟨#[35, 115, 105, 122, 101, 45, 99, 101, 108, 108, 115]⟩] 9)) := (Below.refl _ _).alloc (Nat.le_refl _) _
    have k2 := Keeps.of_fresh hb2 (fun i => i = b)
    have ht2 := hT.new hb2
    have hS2 := BusS.call HSX.out hZb k2 ht2
    exact hK' _ _ (hI.step bus36a 4 183 rfl (by rw [hsz]; decide) _ _ rfl hall hS2 (fun j u h => F36.stable j u _ _ hT ⟨_, hZ⟩ (k2.mono (fun _ _ e => Or.inl e)) h) ⟨_, [⟨#[114, 101, 103]⟩, ⟨#[114, 97, 110, 103, 101, 115]⟩, ⟨#[35, 97, 100, 100, 114, 101, 115, 115, 45, 99, 101, 108, 108, 115]⟩, ⟨#[35, 115, 105, 122, 101, 45, 99, 101, 108, 108, 115]⟩], rfl, Holds.new _ _ _, rfl, by decide⟩)
  · go_simp
    exact hK' _ _ (hI.step bus36a 5 184 rfl (by rw [hsz]; decide) _ _ rfl hall HSX.out (fun _ _ h => h) rfl)
  · have ea : c.tmps.getD 184 undef = .pointer (some ⟨b, 0, none⟩) := hI.fact 5 184 rfl (listed hall 5 (by kernel_rfl))
    simp only [Array.getD_eq_getD_getElem?] at ea
    go_simp
    refine (mk_N B b 4 wx hT (by decide) (by decide)).mono ?_
    rintro e w2 ⟨r, rfl, hr1, hr2, ht2, k2⟩
    go_simp
    have hS2 := BusS.call HSX.out hZb k2 ht2
    exact hK' _ _ (hI.step bus36a 6 185 rfl (by rw [hsz]; decide) _ _ rfl hall hS2 (fun j u h => F36.stable j u _ _ hT ⟨_, hZ⟩ (k2.mono (fun _ _ e => Or.inl e)) h) ⟨r, rfl, hr1, hr2⟩)
  · obtain ⟨N, l, ea, hN, hl, hsz2⟩ : StrR 4 (c.tmps.getD 183 undef) wx := hI.fact 4 183 rfl (listed hall 4 (by kernel_rfl))
    simp only [Array.getD_eq_getD_getElem?] at ea
    obtain ⟨x, eb, hx1, hx2⟩ : NumV (fun x => 0 ≤ x ∧ x < 4) (c.tmps.getD 185 undef) wx := hI.fact 6 185 rfl (listed hall 6 (by kernel_rfl))
    simp only [Array.getD_eq_getD_getElem?] at eb
    obtain ⟨m, rfl⟩ : ∃ m : Nat, x = m := ⟨x.toNat, by omega⟩
    have hm : m < 4 := by omega
    have hmi : (m : Int) < 4 := by omega
    clear hx1 hx2
    have HLL := Lib.hid hl
    clear hl
    go_simp
    exact hK' _ _ (hI.step bus36a 7 186 rfl (by rw [hsz]; decide) _ _ rfl hall HSX.out (fun _ _ h => h) ⟨N, m, l, rfl, hN, by rw [HLL.out]; exact hm, hsz2⟩)
  · obtain ⟨N, m, l, ea, hN, hm, hsz2⟩ : StrP  (c.tmps.getD 186 undef) wx := hI.fact 7 186 rfl (listed hall 7 (by kernel_rfl))
    simp only [Array.getD_eq_getD_getElem?] at ea
    have hc : wx.cell? ⟨N, m, none⟩ = some (.string (l[m]'hm)) := by rw [hN.cell m]; simp [hm]
    go_simp
    exact hK' _ _ (hI.step bus36a 8 187 rfl (by rw [hsz]; decide) _ _ rfl hall HSX.out (fun _ _ h => h) ⟨_, rfl, hsz2 _ (List.getElem_mem hm)⟩)
  · go_simp
    have hb2 : Below wx.heap.size wx (wx.alloc (.cells #[.int .i64 3] 3)) := (Below.refl _ _).alloc (Nat.le_refl _) _
    have k2 := Keeps.of_fresh hb2 (fun i => i = b)
    have ht2 := hT.new hb2
    have hS2 := BusS.call HSX.out hZb k2 ht2
    exact hK' _ _ (hI.step bus36a 9 188 rfl (by rw [hsz]; decide) _ _ rfl hall hS2 (fun j u h => F36.stable j u _ _ hT ⟨_, hZ⟩ (k2.mono (fun _ _ e => Or.inl e)) h) ⟨_, [3], rfl, Holds.new _ _ _, rfl⟩)
  · obtain ⟨N, l, ea, hN, rfl⟩ : RowV (fun l => l = [3]) (c.tmps.getD 188 undef) wx := hI.fact 9 188 rfl (listed hall 9 (by kernel_rfl))
    simp only [Array.getD_eq_getD_getElem?] at ea
    have hls : ListAt wx.heap.size wx (.slice (some ⟨N, 0, none⟩) ([3] : List Int).length ([3] : List Int).length) [3] := ⟨_, _, rfl, Nat.le_refl _, by simp, fun _ => ⟨N, 0, rfl, hN.lt, fun i hi => row_at hN i hi⟩⟩
    go_simp
    refine (grow_Cells [3] _ wx hls (by intro y hy; simp at hy; omega) (by simp)).mono ?_
    rintro e w2 ⟨rfl, hb2⟩
    go_simp
    have k2 := Keeps.of_fresh hb2 (fun i => i = b)
    have ht2 := hT.new hb2
    have hS2 := BusS.call HSX.out hZb k2 ht2
    exact hK' _ _ (hI.step bus36a 10 189 rfl (by rw [hsz]; decide) _ _ rfl hall hS2 (fun j u h => F36.stable j u _ _ hT ⟨_, hZ⟩ (k2.mono (fun _ _ e => Or.inl e)) h) ⟨_, rfl, by decide⟩)
  · go_simp
    have hb2 : Below wx.heap.size wx (wx.alloc (.cells #[.int .i64 1] 3)) := (Below.refl _ _).alloc (Nat.le_refl _) _
    have k2 := Keeps.of_fresh hb2 (fun i => i = b)
    have ht2 := hT.new hb2
    have hS2 := BusS.call HSX.out hZb k2 ht2
    exact hK' _ _ (hI.step bus36a 11 190 rfl (by rw [hsz]; decide) _ _ rfl hall hS2 (fun j u h => F36.stable j u _ _ hT ⟨_, hZ⟩ (k2.mono (fun _ _ e => Or.inl e)) h) ⟨_, [1], rfl, Holds.new _ _ _, rfl⟩)
  · obtain ⟨N, l, ea, hN, rfl⟩ : RowV (fun l => l = [1]) (c.tmps.getD 190 undef) wx := hI.fact 11 190 rfl (listed hall 11 (by kernel_rfl))
    simp only [Array.getD_eq_getD_getElem?] at ea
    have hls : ListAt wx.heap.size wx (.slice (some ⟨N, 0, none⟩) ([1] : List Int).length ([1] : List Int).length) [1] := ⟨_, _, rfl, Nat.le_refl _, by simp, fun _ => ⟨N, 0, rfl, hN.lt, fun i hi => row_at hN i hi⟩⟩
    go_simp
    refine (grow_Cells [1] _ wx hls (by intro y hy; simp at hy; omega) (by simp)).mono ?_
    rintro e w2 ⟨rfl, hb2⟩
    go_simp
    have k2 := Keeps.of_fresh hb2 (fun i => i = b)
    have ht2 := hT.new hb2
    have hS2 := BusS.call HSX.out hZb k2 ht2
    exact hK' _ _ (hI.step bus36a 12 191 rfl (by rw [hsz]; decide) _ _ rfl hall hS2 (fun j u h => F36.stable j u _ _ hT ⟨_, hZ⟩ (k2.mono (fun _ _ e => Or.inl e)) h) ⟨_, rfl, by decide⟩)
  · go_simp
    have hb2 : Below wx.heap.size wx (wx.alloc (.cells #[.int .i64 4294967295, .int .i64 4294967295, .int .i64 1] 3)) := (Below.refl _ _).alloc (Nat.le_refl _) _
    have k2 := Keeps.of_fresh hb2 (fun i => i = b)
    have ht2 := hT.new hb2
    have hS2 := BusS.call HSX.out hZb k2 ht2
    exact hK' _ _ (hI.step bus36a 13 192 rfl (by rw [hsz]; decide) _ _ rfl hall hS2 (fun j u h => F36.stable j u _ _ hT ⟨_, hZ⟩ (k2.mono (fun _ _ e => Or.inl e)) h) ⟨_, [4294967295, 4294967295, 1], rfl, Holds.new _ _ _, rfl⟩)
  · obtain ⟨N, l, ea, hN, rfl⟩ : RowV (fun l => l = [4294967295, 4294967295, 1]) (c.tmps.getD 192 undef) wx := hI.fact 13 192 rfl (listed hall 13 (by kernel_rfl))
    simp only [Array.getD_eq_getD_getElem?] at ea
    have hls : ListAt wx.heap.size wx (.slice (some ⟨N, 0, none⟩) ([4294967295, 4294967295, 1] : List Int).length ([4294967295, 4294967295, 1] : List Int).length) [4294967295, 4294967295, 1] := ⟨_, _, rfl, Nat.le_refl _, by simp, fun _ => ⟨N, 0, rfl, hN.lt, fun i hi => row_at hN i hi⟩⟩
    go_simp
    refine (grow_Cells [4294967295, 4294967295, 1] _ wx hls (by intro y hy; simp at hy; omega) (by simp)).mono ?_
    rintro e w2 ⟨rfl, hb2⟩
    go_simp
    have k2 := Keeps.of_fresh hb2 (fun i => i = b)
    have ht2 := hT.new hb2
    have hS2 := BusS.call HSX.out hZb k2 ht2
    exact hK' _ _ (hI.step bus36a 14 193 rfl (by rw [hsz]; decide) _ _ rfl hall hS2 (fun j u h => F36.stable j u _ _ hT ⟨_, hZ⟩ (k2.mono (fun _ _ e => Or.inl e)) h) ⟨_, rfl, by decide⟩)
  · go_simp
    have hb2 : Below wx.heap.size wx (wx.alloc (.cells #[.int .i64 0, .int .i64 1, .int .i64 2, .int .i64 3] 3)) := (Below.refl _ _).alloc (Nat.le_refl _) _
    have k2 := Keeps.of_fresh hb2 (fun i => i = b)
    have ht2 := hT.new hb2
    have hS2 := BusS.call HSX.out hZb k2 ht2
    exact hK' _ _ (hI.step bus36a 15 194 rfl (by rw [hsz]; decide) _ _ rfl hall hS2 (fun j u h => F36.stable j u _ _ hT ⟨_, hZ⟩ (k2.mono (fun _ _ e => Or.inl e)) h) ⟨_, [0, 1, 2, 3], rfl, Holds.new _ _ _, rfl⟩)
  · obtain ⟨N, l, ea, hN, rfl⟩ : RowV (fun l => l = [0, 1, 2, 3]) (c.tmps.getD 194 undef) wx := hI.fact 15 194 rfl (listed hall 15 (by kernel_rfl))
    simp only [Array.getD_eq_getD_getElem?] at ea
    have hls : ListAt wx.heap.size wx (.slice (some ⟨N, 0, none⟩) ([0, 1, 2, 3] : List Int).length ([0, 1, 2, 3] : List Int).length) [0, 1, 2, 3] := ⟨_, _, rfl, Nat.le_refl _, by simp, fun _ => ⟨N, 0, rfl, hN.lt, fun i hi => row_at hN i hi⟩⟩
    go_simp
    refine (grow_Cells [0, 1, 2, 3] _ wx hls (by intro y hy; simp at hy; omega) (by simp)).mono ?_
    rintro e w2 ⟨rfl, hb2⟩
    go_simp
    have k2 := Keeps.of_fresh hb2 (fun i => i = b)
    have ht2 := hT.new hb2
    have hS2 := BusS.call HSX.out hZb k2 ht2
    exact hK' _ _ (hI.step bus36a 16 195 rfl (by rw [hsz]; decide) _ _ rfl hall hS2 (fun j u h => F36.stable j u _ _ hT ⟨_, hZ⟩ (k2.mono (fun _ _ e => Or.inl e)) h) ⟨_, rfl, by decide⟩)
  · obtain ⟨y1, ea, hy1⟩ : StrV 100 (c.tmps.getD 189 undef) wx := hI.fact 10 189 rfl (listed hall 10 (by kernel_rfl))
    simp only [Array.getD_eq_getD_getElem?] at ea
    obtain ⟨y2, eb, hy2⟩ : StrV 100 (c.tmps.getD 191 undef) wx := hI.fact 12 191 rfl (listed hall 12 (by kernel_rfl))
    simp only [Array.getD_eq_getD_getElem?] at eb
    obtain ⟨y3, ec, hy3⟩ : StrV 100 (c.tmps.getD 193 undef) wx := hI.fact 14 193 rfl (listed hall 14 (by kernel_rfl))
    simp only [Array.getD_eq_getD_getElem?] at ec
    obtain ⟨y4, ed, hy4⟩ : StrV 100 (c.tmps.getD 195 undef) wx := hI.fact 16 195 rfl (listed hall 16 (by kernel_rfl))
    simp only [Array.getD_eq_getD_getElem?] at ed
    go_simp
    have hb2 : Below wx.heap.size wx (wx.alloc (.cells #[.string y1, .string y2, .string y3, .string ⟨#[97, 0]⟩, .string y4] 9)) := (Below.refl _ _).alloc (Nat.le_refl _) _
    have k2 := Keeps.of_fresh hb2 (fun i => i = b)
    have ht2 := hT.new hb2
    have hS2 := BusS.call HSX.out hZb k2 ht2
    exact hK' _ _ (hI.step bus36a 17 196 rfl (by rw [hsz]; decide) _ _ rfl hall hS2 (fun j u h => F36.stable j u _ _ hT ⟨_, hZ⟩ (k2.mono (fun _ _ e => Or.inl e)) h) ⟨_, [y1, y2, y3, ⟨#[97, 0]⟩, y4], rfl, Holds.new _ _ _, rfl, five hy1 hy2 hy3 hy4⟩)
  · go_simp
    exact hK' _ _ (hI.step bus36a 18 197 rfl (by rw [hsz]; decide) _ _ rfl hall HSX.out (fun _ _ h => h) rfl)
  · have ea : c.tmps.getD 197 undef = .pointer (some ⟨b, 0, none⟩) := hI.fact 18 197 rfl (listed hall 18 (by kernel_rfl))
    simp only [Array.getD_eq_getD_getElem?] at ea
    go_simp
    refine (mk_N B b 5 wx hT (by decide) (by decide)).mono ?_
    rintro e w2 ⟨r, rfl, hr1, hr2, ht2, k2⟩
    go_simp
    have hS2 := BusS.call HSX.out hZb k2 ht2
    exact hK' _ _ (hI.step bus36a 19 198 rfl (by rw [hsz]; decide) _ _ rfl hall hS2 (fun j u h => F36.stable j u _ _ hT ⟨_, hZ⟩ (k2.mono (fun _ _ e => Or.inl e)) h) ⟨r, rfl, hr1, hr2⟩)
  · obtain ⟨N, l, ea, hN, hl, hsz2⟩ : StrR 5 (c.tmps.getD 196 undef) wx := hI.fact 17 196 rfl (listed hall 17 (by kernel_rfl))
    simp only [Array.getD_eq_getD_getElem?] at ea
    obtain ⟨x, eb, hx1, hx2⟩ : NumV (fun x => 0 ≤ x ∧ x < 5) (c.tmps.getD 198 undef) wx := hI.fact 19 198 rfl (listed hall 19 (by kernel_rfl))
    simp only [Array.getD_eq_getD_getElem?] at eb
    obtain ⟨m, rfl⟩ : ∃ m : Nat, x = m := ⟨x.toNat, by omega⟩
    have hm : m < 5 := by omega
    have hmi : (m : Int) < 5 := by omega
    clear hx1 hx2
    have HLL := Lib.hid hl
    clear hl
    go_simp
    exact hK' _ _ (hI.step bus36a 20 199 rfl (by rw [hsz]; decide) _ _ rfl hall HSX.out (fun _ _ h => h) ⟨N, m, l, rfl, hN, by rw [HLL.out]; exact hm, hsz2⟩)
  · obtain ⟨N, m, l, ea, hN, hm, hsz2⟩ : StrP  (c.tmps.getD 199 undef) wx := hI.fact 20 199 rfl (listed hall 20 (by kernel_rfl))
    simp only [Array.getD_eq_getD_getElem?] at ea
    have hc : wx.cell? ⟨N, m, none⟩ = some (.string (l[m]'hm)) := by rw [hN.cell m]; simp [hm]
    go_simp
    exact hK' _ _ (hI.step bus36a 21 200 rfl (by rw [hsz]; decide) _ _ rfl hall HSX.out (fun _ _ h => h) ⟨_, rfl, hsz2 _ (List.getElem_mem hm)⟩)
  · obtain ⟨v0, T0, ea, hr0, hs0, hl0⟩ : TreeV base n (c.tmps.getD 179 undef) wx := hI.fact 0 179 rfl (listed hall 0 (by kernel_rfl))
    simp only [Array.getD_eq_getD_getElem?] at ea
    obtain ⟨s, eb⟩ : StrA  (c.tmps.getD 182 undef) wx := hI.fact 3 182 rfl (listed hall 3 (by kernel_rfl))
    simp only [Array.getD_eq_getD_getElem?] at eb
    obtain ⟨nm, ec, hnm⟩ : StrV 100 (c.tmps.getD 187 undef) wx := hI.fact 8 187 rfl (listed hall 8 (by kernel_rfl))
    simp only [Array.getD_eq_getD_getElem?] at ec
    obtain ⟨vl, ed, hvl⟩ : StrV 100 (c.tmps.getD 200 undef) wx := hI.fact 21 200 rfl (listed hall 21 (by kernel_rfl))
    simp only [Array.getD_eq_getD_getElem?] at ed
    have HL0 := Lib.hid hl0
    clear hl0
    go_simp
    refine (grow_with base v0 T0 s nm vl wx hr0 hbx (by omega) (by omega)).mono ?_
    rintro e w2 ⟨v2, rfl, hr2, hb2⟩
    go_simp
    have k2 := Keeps.of_fresh hb2 (fun i => i = b)
    have ht2 := hT.new hb2
    have hS2 := BusS.call HSX.out hZb k2 ht2
    exact hK' _ _ (hI.step bus36a 22 201 rfl (by rw [hsz]; decide) _ _ rfl hall hS2 (fun j u h => F36.stable j u _ _ hT ⟨_, hZ⟩ (k2.mono (fun _ _ e => Or.inl e)) h) ⟨_, _, rfl, hr2, shape_with hs0 _ _ _, (len_with hs0 _ _ _).trans HL0.out⟩)
  · obtain ⟨v0, T0, ea, hr0, hs0, hl0⟩ : TreeV base n (c.tmps.getD 201 undef) wx := hI.fact 22 201 rfl (listed hall 22 (by kernel_rfl))
    simp only [Array.getD_eq_getD_getElem?] at ea
    obtain ⟨a2, c2, rfl⟩ := hr0.slice
    have HL0 := Lib.hid hl0
    clear hl0
    go_simp
    have k2 : Keeps (fun i => i = b ∨ i = Z) wx (wx.setCell ⟨Z, 0, none⟩ (.slice a2 T0.length c2)) := (Keeps.refl _ wx).setCell (p := ⟨Z, 0, none⟩) (Or.inr (Or.inr rfl)) _
    have hS2 := BusS.store HSX.out hZb hZB hr0 hs0 HL0.out
    exact hK' _ _ (hI.stepN 23 rfl _ rfl hall hS2 (fun j u h => F36.stable j u _ _ hT ⟨_, hZ⟩ k2 h) trivial)
end Go.Proofs.YthkoaakicdhnpaaGreat
