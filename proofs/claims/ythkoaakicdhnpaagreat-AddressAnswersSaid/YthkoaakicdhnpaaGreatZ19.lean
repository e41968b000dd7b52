/- Contracts of bringupgrow: pieces of Buses: reg, ranges, and the last change (printed by gbus.py) | Contracts of bringupgrow: pieces of Buses: the loop over the nodes (printed by gbus.py) | Contracts of bringupgrow: Buses. | The walk of the law AddressAnswers (printed by gansc.py). -/
import Derived.Test.YthkoaakicdhnpaaGreatZ18
import Derived.Deep.LoopGhost
import Derived.Deep.DeepCutAuto
import Derived.Deep.CutBlock
import Derived.Test.YthkoaakicdhnpaaGreatZ16
import Derived.Test.YthkoaakicdhnpaaGreatZ20
import Derived.Test.YthkoaakicdhnpaaGreatZ15
import Derived.Test.YthkoaakicdhnpaaGreatZ3

namespace Go.Proofs.YthkoaakicdhnpaaGreat
open Go.RowKit

set_option maxHeartbeats 4000000 in
set_option maxRecDepth 100000 in
theorem bus_if158 {Q : Exit → Act → World → Prop} (B b base Z N gA gS : Nat) (w1 w : World) (hZ1b : Z ≠ b) (hbs : base ≤ w1.heap.size) (hZB : B ≤ Z) (_hl2 : N ≤ 1000) (_hgA : w1.heap.size ≤ gA) (_hgS : w1.heap.size ≤ gS) (_hBA : B ≤ gA) (_hBS : B ≤ gS) (s t : ByteArray) (ht : t.size ≤ 200) (zb : Bool) {u1 u2 u3 u4 u6 u9 u11 u13 u14 u15 u16 u17 u18 u19 u20 u21 u22 u23 u24 u25 u26 u27 u28 u29 u30 u31 u32 u33 u34 u35 u36 u37 u38 u39 u40 u41 u42 u43 u44 u45 u46 u47 u48 u49 u50 u51 u52 u53 u54 u55 u56 u57 u58 u59 u60 u61 u62 u63 u64 u65 u66 u67 u68 u69 u70 u71 u72 u73 u74 u75 u76 u77 u78 u79 u80 u81 u82 u83 u84 u85 u86 u87 u88 u89 u90 u91 u92 u93 u94 u95 u96 u97 u98 u99 u100 u101 u102 u103 u104 u105 u106 u107 u108 u109 u110 u111 u112 u113 u114 u115 u116 u117 u118 u119 u120 u121 u122 u123 u124 u125 u126 u127 u128 u129 u130 u131 u132 u133 u134 u135 u136 u137 u138 u139 u140 u141 u142 u143 u144 u145 u146 u147 u148 u149 u150 u151 u152 u153 u154 u155 u156 u157 u159 u160 u161 u162 u163 u164 u165 u166 u167 u168 u169 u170 u171 u172 u173 u174 u175 u176 u177 u178 u179 u180 u181 u182 u183 u184 u185 u186 u187 u188 u189 u190 u191 u192 u193 u194 u195 u196 u197 u198 u199 u200 u201 u202 : Value}
    (hB : Hid (BusS B b base Z N gA gS w1 w)) (hQ : Hid (∀ (x158 x159 x160 x161 x162 : Value) (wx : World), BusS B b base Z N gA gS w1 wx → Q .normal ⟨#[.pointer (some ⟨b, 0, none⟩), u1, u2, u3, u4, .pointer (some ⟨Z, 0, none⟩), u6, .slice (some ⟨gA, 0, none⟩) N N, .slice (some ⟨gS, 0, none⟩) N N, u9, .string s, u11, .string t, u13, u14, u15, u16, u17, u18, u19, u20, u21, u22, u23, u24, u25, u26, u27, u28, u29, u30, u31, u32, u33, u34, u35, u36, u37, u38, u39, u40, u41, u42, u43, u44, u45, u46, u47, u48, u49, u50, u51, u52, u53, u54, u55, u56, u57, u58, u59, u60, u61, u62, u63, u64, u65, u66, u67, u68, u69, u70, u71, u72, u73, u74, u75, u76, u77, u78, u79, u80, u81, u82, u83, u84, u85, u86, u87, u88, u89, u90, u91, u92, u93, u94, u95, u96, u97, u98, u99, u100, u101, u102, u103, u104, u105, u106, u107, u108, u109, u110, u111, u112, u113, u114, u115, u116, u117, u118, u119, u120, u121, u122, u123, u124, u125, u126, u127, u128, u129, u130, u131, u132, u133, u134, u135, u136, u137, u138, u139, u140, u141, u142, u143, u144, u145, u146, u147, u148, u149, u150, u151, u152, u153, u154, u155, u156, u157, x158, x159, x160, x161, x162, u163, u164, u165, u166, u167, u168, u169, u170, u171, u172, u173, u174, u175, u176, u177, u178, u179, u180, u181, u182, u183, u184, u185, u186, u187, u188, u189, u190, u191, u192, u193, u194, u195, u196, u197, u198, u199, u200, u201, u202], []⟩ wx)) :
    (busIf 158).wp Tryz.prog Q ⟨#[.pointer (some ⟨b, 0, none⟩), u1, u2, u3, u4, .pointer (some ⟨Z, 0, none⟩), u6, .slice (some ⟨gA, 0, none⟩) N N, .slice (some ⟨gS, 0, none⟩) N N, u9, .string s, u11, .string t, u13, u14, u15, u16, u17, u18, u19, u20, u21, u22, u23, u24, u25, u26, u27, u28, u29, u30, u31, u32, u33, u34, u35, u36, u37, u38, u39, u40, u41, u42, u43, u44, u45, u46, u47, u48, u49, u50, u51, u52, u53, u54, u55, u56, u57, u58, u59, u60, u61, u62, u63, u64, u65, u66, u67, u68, u69, u70, u71, u72, u73, u74, u75, u76, u77, u78, u79, u80, u81, u82, u83, u84, u85, u86, u87, u88, u89, u90, u91, u92, u93, u94, u95, u96, u97, u98, u99, u100, u101, u102, u103, u104, u105, u106, u107, u108, u109, u110, u111, u112, u113, u114, u115, u116, u117, u118, u119, u120, u121, u122, u123, u124, u125, u126, u127, u128, u129, u130, u131, u132, u133, u134, u135, u136, u137, u138, u139, u140, u141, u142, u143, u144, u145, u146, u147, u148, u149, u150, u151, u152, u153, u154, u155, u156, u157, .bool zb, u159, u160, u161, u162, u163, u164, u165, u166, u167, u168, u169, u170, u171, u172, u173, u174, u175, u176, u177, u178, u179, u180, u181, u182, u183, u184, u185, u186, u187, u188, u189, u190, u191, u192, u193, u194, u195, u196, u197, u198, u199, u200, u201, u202], []⟩ w := by
  simp only [busIf, ifOf, Tryz.f7, Option.getD_some, reduceIte, Nat.reduceEqDiff]
  cases zb
  · go_wp2_with fail
    exact hQ.out _ _ _ _ _ _ hB.out
  · obtain ⟨qa, qc, T, hZ, hr, hs, hTN⟩ := hB.out.var
    have hX := hZ.cell 0
    have hXf := hZ.free 0
    have hbx : base ≤ w.heap.size := Nat.le_trans hbs hB.out.2.2.2.2.size
    have hT := hB.out.1
    clear hZ
    go_wp2_with fail
    refine (grow_with base _ T s _ t _ hr hbx (by decide) (by omega)).mono ?_
    rintro e w13 ⟨v2, rfl, hr2, hb2⟩
    have hBn := hB.out.new hZ1b hb2
    have hs2 := shape_with hs s ⟨#[114, 101, 103]⟩ t
    have hl2' := (len_with hs s ⟨#[114, 101, 103]⟩ t).trans hTN.out
    obtain ⟨qa2, qc2, hv2⟩ := hr2.slice
    rw [hl2'] at hv2
    subst hv2
    obtain ⟨_, _, _, hZn, -, -, -⟩ := hBn.var
    have y0 := hZn.cell 0
    have yf := hZn.free 0
    have HBn := Lib.hid (hBn.store hZ1b hZB hr2 hs2 hl2')
    clear hBn hs2 hl2' hr2 hZn hr hs hTN hX hXf hb2 hT
    go_wp2_with fail
    exact hQ.out _ _ _ _ _ _ HBn.out

set_option maxHeartbeats 4000000 in
set_option maxRecDepth 100000 in
theorem bus_if165 {Q : Exit → Act → World → Prop} (B b base Z N gA gS : Nat) (w1 w : World) (hZ1b : Z ≠ b) (hbs : base ≤ w1.heap.size) (hZB : B ≤ Z) (_hl2 : N ≤ 1000) (_hgA : w1.heap.size ≤ gA) (_hgS : w1.heap.size ≤ gS) (_hBA : B ≤ gA) (_hBS : B ≤ gS) (s t : ByteArray) (ht : t.size ≤ 200) (q : Int) {u1 u2 u3 u4 u6 u9 u11 u12 u14 u15 u16 u17 u18 u19 u20 u21 u22 u23 u24 u25 u26 u27 u28 u29 u30 u31 u32 u33 u34 u35 u36 u37 u38 u39 u40 u41 u42 u43 u44 u45 u46 u47 u48 u49 u50 u51 u52 u53 u54 u55 u56 u57 u58 u59 u60 u61 u62 u63 u64 u65 u66 u67 u68 u69 u70 u71 u72 u73 u74 u75 u76 u77 u78 u79 u80 u81 u82 u83 u84 u85 u86 u87 u88 u89 u90 u91 u92 u93 u94 u95 u96 u97 u98 u99 u100 u101 u102 u103 u104 u105 u106 u107 u108 u109 u110 u111 u112 u113 u114 u115 u116 u117 u118 u119 u120 u121 u122 u123 u124 u125 u126 u127 u128 u129 u130 u131 u132 u133 u134 u135 u136 u137 u138 u139 u140 u141 u142 u143 u144 u145 u146 u147 u148 u149 u150 u151 u152 u153 u154 u155 u156 u157 u158 u159 u160 u161 u162 u163 u166 u167 u168 u169 u170 u171 u172 u173 u174 u175 u176 u177 u178 u179 u180 u181 u182 u183 u184 u185 u186 u187 u188 u189 u190 u191 u192 u193 u194 u195 u196 u197 u198 u199 u200 u201 u202 : Value}
    (hB : Hid (BusS B b base Z N gA gS w1 w)) (hQ : Hid (∀ (x165 x166 x167 x168 x169 : Value) (wx : World), BusS B b base Z N gA gS w1 wx → Q .normal ⟨#[.pointer (some ⟨b, 0, none⟩), u1, u2, u3, u4, .pointer (some ⟨Z, 0, none⟩), u6, .slice (some ⟨gA, 0, none⟩) N N, .slice (some ⟨gS, 0, none⟩) N N, u9, .string s, u11, u12, .string t, u14, u15, u16, u17, u18, u19, u20, u21, u22, u23, u24, u25, u26, u27, u28, u29, u30, u31, u32, u33, u34, u35, u36, u37, u38, u39, u40, u41, u42, u43, u44, u45, u46, u47, u48, u49, u50, u51, u52, u53, u54, u55, u56, u57, u58, u59, u60, u61, u62, u63, u64, u65, u66, u67, u68, u69, u70, u71, u72, u73, u74, u75, u76, u77, u78, u79, u80, u81, u82, u83, u84, u85, u86, u87, u88, u89, u90, u91, u92, u93, u94, u95, u96, u97, u98, u99, u100, u101, u102, u103, u104, u105, u106, u107, u108, u109, u110, u111, u112, u113, u114, u115, u116, u117, u118, u119, u120, u121, u122, u123, u124, u125, u126, u127, u128, u129, u130, u131, u132, u133, u134, u135, u136, u137, u138, u139, u140, u141, u142, u143, u144, u145, u146, u147, u148, u149, u150, u151, u152, u153, u154, u155, u156, u157, u158, u159, u160, u161, u162, u163, .int .i64 q, x165, x166, x167, x168, x169, u170, u171, u172, u173, u174, u175, u176, u177, u178, u179, u180, u181, u182, u183, u184, u185, u186, u187, u188, u189, u190, u191, u192, u193, u194, u195, u196, u197, u198, u199, u200, u201, u202], []⟩ wx)) :
    (busIf 165).wp Tryz.prog Q ⟨#[.pointer (some ⟨b, 0, none⟩), u1, u2, u3, u4, .pointer (some ⟨Z, 0, none⟩), u6, .slice (some ⟨gA, 0, none⟩) N N, .slice (some ⟨gS, 0, none⟩) N N, u9, .string s, u11, u12, .string t, u14, u15, u16, u17, u18, u19, u20, u21, u22, u23, u24, u25, u26, u27, u28, u29, u30, u31, u32, u33, u34, u35, u36, u37, u38, u39, u40, u41, u42, u43, u44, u45, u46, u47, u48, u49, u50, u51, u52, u53, u54, u55, u56, u57, u58, u59, u60, u61, u62, u63, u64, u65, u66, u67, u68, u69, u70, u71, u72, u73, u74, u75, u76, u77, u78, u79, u80, u81, u82, u83, u84, u85, u86, u87, u88, u89, u90, u91, u92, u93, u94, u95, u96, u97, u98, u99, u100, u101, u102, u103, u104, u105, u106, u107, u108, u109, u110, u111, u112, u113, u114, u115, u116, u117, u118, u119, u120, u121, u122, u123, u124, u125, u126, u127, u128, u129, u130, u131, u132, u133, u134, u135, u136, u137, u138, u139, u140, u141, u142, u143, u144, u145, u146, u147, u148, u149, u150, u151, u152, u153, u154, u155, u156, u157, u158, u159, u160, u161, u162, u163, .int .i64 q, .bool (decide (q > 0)), u166, u167, u168, u169, u170, u171, u172, u173, u174, u175, u176, u177, u178, u179, u180, u181, u182, u183, u184, u185, u186, u187, u188, u189, u190, u191, u192, u193, u194, u195, u196, u197, u198, u199, u200, u201, u202], []⟩ w := by
  simp only [busIf, ifOf, Tryz.f7, Option.getD_some, reduceIte, Nat.reduceEqDiff]
  by_cases hz : 0 < q
  · obtain ⟨qa, qc, T, hZ, hr, hs, hTN⟩ := hB.out.var
    have hX := hZ.cell 0
    have hXf := hZ.free 0
    have hbx : base ≤ w.heap.size := Nat.le_trans hbs hB.out.2.2.2.2.size
    have hT := hB.out.1
    clear hZ
    go_wp2_with fail
    refine (grow_with base _ T s _ t _ hr hbx (by decide) (by omega)).mono ?_
    rintro e w13 ⟨v2, rfl, hr2, hb2⟩
    have hBn := hB.out.new hZ1b hb2
    have hs2 := shape_with hs s ⟨#[114, 97, 110, 103, 101, 115]⟩ t
    have hl2' := (len_with hs s ⟨#[114, 97, 110, 103, 101, 115]⟩ t).trans hTN.out
    obtain ⟨qa2, qc2, hv2⟩ := hr2.slice
    rw [hl2'] at hv2
    subst hv2
    obtain ⟨_, _, _, hZn, -, -, -⟩ := hBn.var
    have y0 := hZn.cell 0
    have yf := hZn.free 0
    have HBn := Lib.hid (hBn.store hZ1b hZB hr2 hs2 hl2')
    clear hBn hs2 hl2' hr2 hZn hr hs hTN hX hXf hb2 hT
    go_wp2_with fail
    exact hQ.out _ _ _ _ _ _ HBn.out
  · have hz' : ¬ q > 0 := by omega
    go_wp2_with fail
    exact hQ.out _ _ _ _ _ _ hB.out

set_option maxHeartbeats 4000000 in
set_option maxRecDepth 100000 in
theorem bus_if173 {Q : Exit → Act → World → Prop} (B b base Z N gA gS : Nat) (w1 w : World) (hZ1b : Z ≠ b) (hbs : base ≤ w1.heap.size) (hZB : B ≤ Z) (hl2 : N ≤ 1000) (_hgA : w1.heap.size ≤ gA) (_hgS : w1.heap.size ≤ gS) (_hBA : B ≤ gA) (_hBS : B ≤ gS) (q : Int) {u1 u2 u3 u4 u6 u9 u10 u11 u12 u13 u14 u15 u16 u17 u18 u19 u20 u21 u22 u23 u24 u25 u26 u27 u28 u29 u30 u31 u32 u33 u34 u35 u36 u37 u38 u39 u40 u41 u42 u43 u44 u45 u46 u47 u48 u49 u50 u51 u52 u53 u54 u55 u56 u57 u58 u59 u60 u61 u62 u63 u64 u65 u66 u67 u68 u69 u70 u71 u72 u73 u74 u75 u76 u77 u78 u79 u80 u81 u82 u83 u84 u85 u86 u87 u88 u89 u90 u91 u92 u93 u94 u95 u96 u97 u98 u99 u100 u101 u102 u103 u104 u105 u106 u107 u108 u109 u110 u111 u112 u113 u114 u115 u116 u117 u118 u119 u120 u121 u122 u123 u124 u125 u126 u127 u128 u129 u130 u131 u132 u133 u134 u135 u136 u137 u138 u139 u140 u141 u142 u143 u144 u145 u146 u147 u148 u149 u150 u151 u152 u153 u154 u155 u156 u157 u158 u159 u160 u161 u162 u163 u164 u165 u166 u167 u168 u169 u170 u171 u174 u175 u176 u177 u178 u179 u180 u181 u182 u183 u184 u185 u186 u187 u188 u189 u190 u191 u192 u193 u194 u195 u196 u197 u198 u199 u200 u201 u202 : Value}
    (hB : Hid (BusS B b base Z N gA gS w1 w)) (hQ : Hid (∀ (x16 x173 x174 x175 x176 x177 x178 x179 x180 x181 x182 x183 x184 x185 x186 x187 x188 x189 x190 x191 x192 x193 x194 x195 x196 x197 x198 x199 x200 x201 : Value) (wx : World), BusS B b base Z N gA gS w1 wx → Q .normal ⟨#[.pointer (some ⟨b, 0, none⟩), u1, u2, u3, u4, .pointer (some ⟨Z, 0, none⟩), u6, .slice (some ⟨gA, 0, none⟩) N N, .slice (some ⟨gS, 0, none⟩) N N, u9, u10, u11, u12, u13, u14, u15, x16, u17, u18, u19, u20, u21, u22, u23, u24, u25, u26, u27, u28, u29, u30, u31, u32, u33, u34, u35, u36, u37, u38, u39, u40, u41, u42, u43, u44, u45, u46, u47, u48, u49, u50, u51, u52, u53, u54, u55, u56, u57, u58, u59, u60, u61, u62, u63, u64, u65, u66, u67, u68, u69, u70, u71, u72, u73, u74, u75, u76, u77, u78, u79, u80, u81, u82, u83, u84, u85, u86, u87, u88, u89, u90, u91, u92, u93, u94, u95, u96, u97, u98, u99, u100, u101, u102, u103, u104, u105, u106, u107, u108, u109, u110, u111, u112, u113, u114, u115, u116, u117, u118, u119, u120, u121, u122, u123, u124, u125, u126, u127, u128, u129, u130, u131, u132, u133, u134, u135, u136, u137, u138, u139, u140, u141, u142, u143, u144, u145, u146, u147, u148, u149, u150, u151, u152, u153, u154, u155, u156, u157, u158, u159, u160, u161, u162, u163, u164, u165, u166, u167, u168, u169, u170, u171, .int .i64 q, x173, x174, x175, x176, x177, x178, x179, x180, x181, x182, x183, x184, x185, x186, x187, x188, x189, x190, x191, x192, x193, x194, x195, x196, x197, x198, x199, x200, x201, u202], []⟩ wx)) :
    (busIf 173).wp Tryz.prog Q ⟨#[.pointer (some ⟨b, 0, none⟩), u1, u2, u3, u4, .pointer (some ⟨Z, 0, none⟩), u6, .slice (some ⟨gA, 0, none⟩) N N, .slice (some ⟨gS, 0, none⟩) N N, u9, u10, u11, u12, u13, u14, u15, u16, u17, u18, u19, u20, u21, u22, u23, u24, u25, u26, u27, u28, u29, u30, u31, u32, u33, u34, u35, u36, u37, u38, u39, u40, u41, u42, u43, u44, u45, u46, u47, u48, u49, u50, u51, u52, u53, u54, u55, u56, u57, u58, u59, u60, u61, u62, u63, u64, u65, u66, u67, u68, u69, u70, u71, u72, u73, u74, u75, u76, u77, u78, u79, u80, u81, u82, u83, u84, u85, u86, u87, u88, u89, u90, u91, u92, u93, u94, u95, u96, u97, u98, u99, u100, u101, u102, u103, u104, u105, u106, u107, u108, u109, u110, u111, u112, u113, u114, u115, u116, u117, u118, u119, u120, u121, u122, u123, u124, u125, u126, u127, u128, u129, u130, u131, u132, u133, u134, u135, u136, u137, u138, u139, u140, u141, u142, u143, u144, u145, u146, u147, u148, u149, u150, u151, u152, u153, u154, u155, u156, u157, u158, u159, u160, u161, u162, u163, u164, u165, u166, u167, u168, u169, u170, u171, .int .i64 q, .bool (q == 11), u174, u175, u176, u177, u178, u179, u180, u181, u182, u183, u184, u185, u186, u187, u188, u189, u190, u191, u192, u193, u194, u195, u196, u197, u198, u199, u200, u201, u202], []⟩ w := by
  simp only [busIf, ifOf, Tryz.f7, Option.getD_some, reduceIte, Nat.reduceEqDiff]
  by_cases hz : q = 11
  · have hz' : (q == 11) = true := by simp [hz]
    clear hz
    obtain ⟨qa, qc, T, hZ, -, hs, hTN⟩ := hB.out.var
    have hX := hZ.cell 0
    have hN1 : 1 ≤ (N : Int) := by have := hs.1; rw [hTN.out] at this; omega
    have hT17 := hB.out.1
    clear hZ hs hTN
    go_wp2_with fail
    refine (mk_N B b N _ hT17 (by omega) (by omega)).mono ?_
    rintro e w18 ⟨z, rfl, hz0, hz1, hT18, hk18⟩
    have HB18 := Lib.hid (hB.out.call hZ1b hk18 hT18)
    clear hB hT17 hk18 hX
    go_wp2_with fail
    refine wp_region_any (by kernel_rfl) ?_
    refine wpAny_ops (ops' := busOps 36) (by kernel_rfl) ?_
    refine bus_region36 B b base Z N gA gS z w1 _ _ rfl hZ1b hbs hZB rfl rfl rfl (by exact HB18.out.drew hZ1b) ?_
    intro c w19 hsb hB19
    obtain ⟨y179, y180, y181, y182, y183, y184, y185, y186, y187, y188, y189, y190, y191, y192, y193, y194, y195, y196, y197, y198, y199, y200, y201, hc⟩ := hsb.ex [179, 180, 181, 182, 183, 184, 185, 186, 187, 188, 189, 190, 191, 192, 193, 194, 195, 196, 197, 198, 199, 200, 201] (by kernel_rfl)
    subst hc
    simp only [List.setIfInBounds_toArray, List.set_cons_zero, List.set_cons_succ]
    exact hQ.out _ _ _ _ _ _ _ _ _ _ _ _ _ _ _ _ _ _ _ _ _ _ _ _ _ _ _ _ _ _ _ hB19
  · have hz' : (q == 11) = false := by simpa using hz
    clear hz
    go_wp2_with fail
    exact hQ.out _ _ _ _ _ _ _ _ _ _ _ _ _ _ _ _ _ _ _ _ _ _ _ _ _ _ _ _ _ _ _ hB.out
end Go.Proofs.YthkoaakicdhnpaaGreat

namespace Go.Proofs.YthkoaakicdhnpaaGreat
open Go.RowKit

set_option maxHeartbeats 4000000 in
set_option maxRecDepth 100000 in
theorem bus_blk2 {Q : Exit → Act → World → Prop} (B b base Z N gA gS : Nat) (w1 w : World) (hZ1b : Z ≠ b) (hbs : base ≤ w1.heap.size) (hZB : B ≤ Z) (hl2 : N ≤ 1000) (hgA : w1.heap.size ≤ gA) (hgS : w1.heap.size ≤ gS) (hBA : B ≤ gA) (hBS : B ≤ gS)  {u1 u2 u3 u4 u6 u9 u10 u11 u12 u13 u14 u15 u16 u17 u18 u19 u20 u21 u22 u23 u24 u25 u26 u27 u28 u29 u30 u31 u32 u33 u34 u35 u36 u37 u38 u39 u40 u43 u44 u45 u46 u47 u48 u49 u50 u51 u52 u53 u54 u55 u56 u57 u58 u59 u60 u61 u62 u63 u64 u65 u66 u67 u68 u69 u70 u71 u72 u73 u74 u75 u76 u77 u78 u79 u80 u81 u82 u83 u84 u85 u86 u87 u88 u89 u90 u91 u92 u93 u94 u95 u96 u97 u98 u99 u100 u101 u102 u103 u104 u105 u106 u107 u108 u109 u110 u111 u112 u113 u114 u115 u116 u117 u118 u119 u120 u121 u122 u123 u124 u125 u126 u127 u128 u129 u130 u131 u132 u133 u134 u135 u136 u137 u138 u139 u140 u141 u142 u143 u144 u145 u146 u147 u148 u149 u150 u151 u152 u153 u154 u155 u156 u157 u158 u159 u160 u161 u162 u163 u164 u165 u166 u167 u168 u169 u170 u171 u172 u173 u174 u175 u176 u177 u178 u179 u180 u181 u182 u183 u184 u185 u186 u187 u188 u189 u190 u191 u192 u193 u194 u195 u196 u197 u198 u199 u200 u201 u202 : Value}
    (hB : Hid (BusS B b base Z N gA gS w1 w)) (hQ : Hid (∀ (x9 x10 x11 x12 x13 x14 x15 x42 x43 x44 x45 x46 x47 x48 x49 x50 x51 x52 x53 x54 x55 x56 x57 x58 x59 x60 x61 x62 x63 x64 x65 x66 x67 x68 x69 x70 x71 x72 x73 x74 x75 x76 x77 x78 x79 x80 x81 x82 x83 x84 x85 x86 x87 x88 x89 x90 x91 x92 x93 x94 x95 x96 x97 x98 x99 x100 x101 x102 x103 x104 x105 x106 x107 x108 x109 x110 x111 x112 x113 x114 x115 x116 x117 x118 x119 x120 x121 x122 x123 x124 x125 x126 x127 x128 x129 x130 x131 x132 x133 x134 x135 x136 x137 x138 x139 x140 x141 x142 x143 x144 x145 x146 x147 x148 x149 x150 x151 x152 x153 x154 x155 x156 x157 x158 x159 x160 x161 x162 x163 x164 x165 x166 x167 x168 x169 x170 : Value) (wx : World), BusS B b base Z N gA gS w1 wx → Q .normal ⟨#[.pointer (some ⟨b, 0, none⟩), u1, u2, u3, u4, .pointer (some ⟨Z, 0, none⟩), u6, .slice (some ⟨gA, 0, none⟩) N N, .slice (some ⟨gS, 0, none⟩) N N, x9, x10, x11, x12, x13, x14, x15, u16, u17, u18, u19, u20, u21, u22, u23, u24, u25, u26, u27, u28, u29, u30, u31, u32, u33, u34, u35, u36, u37, u38, u39, u40, .int .i64 N, x42, x43, x44, x45, x46, x47, x48, x49, x50, x51, x52, x53, x54, x55, x56, x57, x58, x59, x60, x61, x62, x63, x64, x65, x66, x67, x68, x69, x70, x71, x72, x73, x74, x75, x76, x77, x78, x79, x80, x81, x82, x83, x84, x85, x86, x87, x88, x89, x90, x91, x92, x93, x94, x95, x96, x97, x98, x99, x100, x101, x102, x103, x104, x105, x106, x107, x108, x109, x110, x111, x112, x113, x114, x115, x116, x117, x118, x119, x120, x121, x122, x123, x124, x125, x126, x127, x128, x129, x130, x131, x132, x133, x134, x135, x136, x137, x138, x139, x140, x141, x142, x143, x144, x145, x146, x147, x148, x149, x150, x151, x152, x153, x154, x155, x156, x157, x158, x159, x160, x161, x162, x163, x164, x165, x166, x167, x168, x169, x170, u171, u172, u173, u174, u175, u176, u177, u178, u179, u180, u181, u182, u183, u184, u185, u186, u187, u188, u189, u190, u191, u192, u193, u194, u195, u196, u197, u198, u199, u200, u201, u202], []⟩ wx)) :
    (busBlk 2).wp Tryz.prog Q ⟨#[.pointer (some ⟨b, 0, none⟩), u1, u2, u3, u4, .pointer (some ⟨Z, 0, none⟩), u6, .slice (some ⟨gA, 0, none⟩) N N, .slice (some ⟨gS, 0, none⟩) N N, u9, u10, u11, u12, u13, u14, u15, u16, u17, u18, u19, u20, u21, u22, u23, u24, u25, u26, u27, u28, u29, u30, u31, u32, u33, u34, u35, u36, u37, u38, u39, u40, .int .i64 N, .int .i64 0, u43, u44, u45, u46, u47, u48, u49, u50, u51, u52, u53, u54, u55, u56, u57, u58, u59, u60, u61, u62, u63, u64, u65, u66, u67, u68, u69, u70, u71, u72, u73, u74, u75, u76, u77, u78, u79, u80, u81, u82, u83, u84, u85, u86, u87, u88, u89, u90, u91, u92, u93, u94, u95, u96, u97, u98, u99, u100, u101, u102, u103, u104, u105, u106, u107, u108, u109, u110, u111, u112, u113, u114, u115, u116, u117, u118, u119, u120, u121, u122, u123, u124, u125, u126, u127, u128, u129, u130, u131, u132, u133, u134, u135, u136, u137, u138, u139, u140, u141, u142, u143, u144, u145, u146, u147, u148, u149, u150, u151, u152, u153, u154, u155, u156, u157, u158, u159, u160, u161, u162, u163, u164, u165, u166, u167, u168, u169, u170, u171, u172, u173, u174, u175, u176, u177, u178, u179, u180, u181, u182, u183, u184, u185, u186, u187, u188, u189, u190, u191, u192, u193, u194, u195, u196, u197, u198, u199, u200, u201, u202], []⟩ w := by
  simp only [busBlk, blkOf, Tryz.f7, Option.getD_some, reduceIte, Nat.reduceEqDiff]
  go_wp2_with fail
  go_loopg [42] N (fun f c wr => ∃ k : Nat, c = .int .i64 k ∧ k ≤ N ∧ N ≤ k + f ∧ BusS B b base Z N gA gS w1 wr)
  case atStart => exact ⟨0, rfl, by omega, by omega, hB.out⟩
  case round =>
    clear hB
    obtain ⟨k, rfl, hkN, hkf, hB⟩ := hrel
    by_cases hlt : k < N
    · have hlt' : (k : Int) < N := by omega
      obtain ⟨⟨lA, hA, hA1, xA, hcA⟩, ⟨lS, hS, hS1, xS, hcS⟩⟩ := hB.row hlt
      have hfA := hA.free k
      have hB1 := hB.put hZ1b (k := k) hA hA1.out hgA 1 (by simp) hBA
      obtain ⟨_, ⟨lS1, hS1, hS11, xS1, hcS1⟩⟩ := hB1.row hlt
      have hfS1 := hS1.free k
      have hB2 := hB1.put hZ1b (k := k) hS1 hS11.out hgS 1 (by simp) hBS
      obtain ⟨ta, tc, T, hZ, hr, hs, hTN⟩ := hB2.var
      have hX := hZ.cell 0
      have HB2 := Lib.hid hB2
      clear hB hB1 hA hS hS1 hB2 hA1 hS11
      go_wp2_with fail
      refine (ref3_Path (fun g => base ≤ g) _ T k _ (by exact hr.in)).mono ?_
      rintro e w2 ⟨rfl, hb2⟩
      have hB3 := HB2.out.new hZ1b hb2
      clear HB2 hb2 hX hZ hr hs hTN hcA hcS hfA hfS1 hcS1
      generalize pathQ T k = s
      clear T
      have hT3 := hB3.1
      have HB3 := Lib.hid hB3
      clear hB3
      go_wp2_with fail
      refine (mk_N B b 3 _ hT3 (by omega) (by omega)).mono ?_
      rintro e w3 ⟨q, rfl, hq0, hq1, hT4, hk4⟩
      have HB4 := Lib.hid (HB3.out.call hZ1b hk4 hT4)
      clear HB3 hT3 hk4 hT4
      go_upto_if 56 with fail
      refine wp_code (c' := busIf 56) (by kernel_rfl) ?_
      refine bus_if56 B b base Z N gA gS w1 _ hZ1b hbs hZB hl2 hgA hgS hBA hBS k hlt s q HB4 ?_
      refine Lib.hid ?_
      rintro v56 v57 v58 v59 v60 v61 v62 v63 v64 v65 v66 v67 v68 v69 v70 w6 hB6
      have hT6 := hB6.1
      have HB6 := Lib.hid hB6
      clear hB6 HB4 hq0 hq1
      go_wp2_with fail
      refine (mk_N B b 3 _ hT6 (by omega) (by omega)).mono ?_
      rintro e w7 ⟨q, rfl, hq0, hq1, hT7, hk7⟩
      have HB7 := Lib.hid (HB6.out.call hZ1b hk7 hT7)
      clear HB6 hT6 hk7 hT7
      go_upto_if 73 with fail
      refine wp_code (c' := busIf 73) (by kernel_rfl) ?_
      refine bus_if73 B b base Z N gA gS w1 _ hZ1b hbs hZB hl2 hgA hgS hBA hBS k hlt s q HB7 ?_
      refine Lib.hid ?_
      rintro v73 v74 v75 v76 v77 v78 v79 v80 v81 v82 v83 v84 v85 v86 v87 w8 hcut
      clear HB7 hq0 hq1
      by_cases hk0 : k = 0
      · have hz : ((k : Int) == 0) = true := by simp [hk0]
        have HK := Lib.hid hk0
        have HB8 := Lib.hid hcut
        clear hk0 hcut
        go_wp2_with fail
        go_roundg (N - 1)
        case measure => have := HK.out; omega
        case rel => exact ⟨k + 1, by go_num, by omega, by have := HK.out; omega, HB8.out⟩
      · have hz : ((k : Int) == 0) = false := by rw [beq_eq_false_iff_ne]; omega
        have hk1 : 0 < k := by omega
        clear hk0
        obtain ⟨ta2, tc2, T, hZ, hr, hs, hTN⟩ := hcut.var
        have hkT : k < T.length := by rw [hTN.out]; exact hlt
        obtain ⟨g, o, pa2, pc2, rfl, -, c0, -⟩ := hr.in.at k hkT
        obtain ⟨hp0, hp1⟩ := hs.2.1.2.1 k hk1 hkT
        rw [parOf_at hkT] at hp0 hp1
        generalize T[k].parent = p at *
        obtain ⟨i1, rfl⟩ := Int.eq_ofNat_of_zero_le hp0
        have hi1 : i1 < N := by omega
        have hX := hZ.cell 0
        have hT8 := hcut.1
        have HB8 := Lib.hid hcut
        clear hcut hr hs hTN hkT hZ
        go_wp2_with fail
        refine (mk_N B b 3 _ hT8 (by omega) (by omega)).mono ?_
        rintro e w9 ⟨q, rfl, hq0, hq1, hT9, hk9⟩
        have HB9 := Lib.hid (HB8.out.call hZ1b hk9 hT9)
        clear HB8 hT8 hk9 hT9 c0 hX hp1 hp0
        go_upto_block 4 with fail
        refine wp_code (c' := busBlk 4) (by kernel_rfl) ?_
        refine bus_blk4 B b base Z N gA gS w1 _ hZ1b hbs hZB hl2 hgA hgS hBA hBS k i1 hlt hi1 q hq0 hq1 HB9 ?_
        refine Lib.hid ?_
        rintro v12 v14 v98 v99 v100 v101 v102 v103 v104 v105 v106 v107 v108 v109 v110 v111 v112 v113 v114 v115 v116 v117 v118 v119 v120 v121 v122 w10 ⟨⟨t, rfl, ht⟩, hB10⟩
        clear HB9 hq0 hq1
        have hT10 := hB10.1
        have HB10 := Lib.hid hB10
        clear hB10
        go_wp2_with fail
        refine (mk_N B b 3 _ hT10 (by omega) (by omega)).mono ?_
        rintro e w11 ⟨q2, rfl, hq0, hq1, hT11, hk11⟩
        have HB11 := Lib.hid (HB10.out.call hZ1b hk11 hT11)
        clear HB10 hT10 hk11 hT11
        go_upto_block 6 with fail
        refine wp_code (c' := busBlk 6) (by kernel_rfl) ?_
        refine bus_blk6 B b base Z N gA gS w1 _ hZ1b hbs hZB hl2 hgA hgS hBA hBS k i1 hlt hi1 q2 hq0 hq1 HB11 ?_
        refine Lib.hid ?_
        rintro v13 v15 v125 v126 v127 v128 v129 v130 v131 v132 v133 v134 v135 v136 v137 v138 v139 v140 v141 v142 v143 v144 v145 v146 v147 v148 v149 v150 v151 v152 v153 v154 v155 v156 w12 ⟨⟨t2, rfl, ht2⟩, hB12⟩
        clear HB11 hq0 hq1
        have HB12 := Lib.hid hB12
        clear hB12
        go_upto_if 158 with fail
        generalize (!t.toList.isEmpty) = zb
        refine wp_code (c' := busIf 158) (by kernel_rfl) ?_
        refine bus_if158 B b base Z N gA gS w1 _ hZ1b hbs hZB hl2 hgA hgS hBA hBS s t ht zb HB12 ?_
        refine Lib.hid ?_
        rintro v158 v159 v160 v161 v162 w13 hcut
        clear HB12
        have hT13 := hcut.1
        have HB13 := Lib.hid hcut
        clear hcut
        go_wp2_with fail
        refine (mk_N B b 4 _ hT13 (by omega) (by omega)).mono ?_
        rintro e w14 ⟨q4, rfl, hq0, hq1, hT14, hk14⟩
        have HB14 := Lib.hid (HB13.out.call hZ1b hk14 hT14)
        clear HB13 hT13 hk14 hT14
        go_upto_if 165 with fail
        refine wp_code (c' := busIf 165) (by kernel_rfl) ?_
        refine bus_if165 B b base Z N gA gS w1 _ hZ1b hbs hZB hl2 hgA hgS hBA hBS s t2 ht2 q4 HB14 ?_
        refine Lib.hid ?_
        rintro v165 v166 v167 v168 v169 w15 hcut
        have HB15 := Lib.hid hcut
        clear hcut HB14
        go_wp2_with fail
        go_roundg (N - k - 1)
        case measure => omega
        case rel => exact ⟨k + 1, by go_num, by omega, by omega, HB15.out⟩
    · have hB' := Lib.hid hB
      clear hB
      go_wp2_with fail
      exact hQ.out _ _ _ _ _ _ _ _ _ _ _ _ _ _ _ _ _ _ _ _ _ _ _ _ _ _ _ _ _ _ _ _ _ _ _ _ _ _ _ _ _ _ _ _ _ _ _ _ _ _ _ _ _ _ _ _ _ _ _ _ _ _ _ _ _ _ _ _ _ _ _ _ _ _ _ _ _ _ _ _ _ _ _ _ _ _ _ _ _ _ _ _ _ _ _ _ _ _ _ _ _ _ _ _ _ _ _ _ _ _ _ _ _ _ _ _ _ _ _ _ _ _ _ _ _ _ _ _ _ _ _ _ _ _ _ _ _ hB'.out
end Go.Proofs.YthkoaakicdhnpaaGreat

namespace Go.Proofs.YthkoaakicdhnpaaGreat
open Go.RowKit

/-- The tree of the first node alone. -/
def oneT : List NodeT := [⟨-1, ⟨#[]⟩, []⟩]
theorem first_tree (w : World) (base : Nat) (hb : base ≤ w.heap.size) : TreeRow (w.alloc (.cells #[.int .i64 (-1), .string ⟨#[]⟩, .slice none 0 0] 63)) base (.slice (some ⟨w.heap.size, 0, none⟩) 1 1) oneT := by
  refine ⟨[.slice none 0 0], rfl, ?_, ?_, ?_⟩
  · exact World.ownsRow_lit w #[.int .i64 (-1), .string ⟨#[]⟩, .slice none 0 0] 1 hb (by decide) (by decide)
  · intro k hk hk2
    obtain rfl : k = 0 := by simp [oneT] at hk; exact hk
    exact PropRow.nil _ _
  · intro m hm
    simp only [oneT, List.mem_singleton] at hm
    subst hm
    unfold NodeOk; decide

theorem shape_one : ShapeB oneT := ⟨by decide, ⟨by decide, fun i h1 h2 => by simp [oneT] at h2; omega, rfl⟩, by decide⟩

/-- Buses in its first loop. -/
def BusA (B b base Z : Nat) (m : Int) (W w : World) : Prop := ∃ v T, Tape B w b ∧ Holds w Z #[v] 25 ∧ TreeRow w base v T ∧ ShapeB T ∧ (T.length : Int) ≤ m ∧ Keeps (fun i => i = b ∨ i = Z) W w

set_option maxHeartbeats 4000000 in
set_option maxRecDepth 100000 in
theorem grow_Buses (B b : Nat) (n : Int) (w : World) (h : Tape B w b) (hn : 0 ≤ n) (hn2 : n ≤ 20) :
    Calls Tryz.prog 7 #[.pointer (some ⟨b, 0, none⟩), .int .i64 n] w fun e w' => ∃ v T, e = .returned (.agg #[v]) ∧ TreeRow w' w.heap.size v T ∧ ShapeB T ∧ (T.length : Int) ≤ n + 1 ∧ Tape B w' b ∧ Keeps (· = b) w w' := by
  have hlt := h.lt
  have hBw : B ≤ w.heap.size := Nat.le_trans h.1 (Nat.le_of_lt hlt)

  have hb0 : Below w.heap.size w (w.alloc (.cells #[.slice none 0 0] 25)) := (Below.refl _ _).alloc (Nat.le_refl _) _
  have hr0 := first_tree (w.alloc (.cells #[.slice none 0 0] 25)) w.heap.size (by simp)
  have hH0 := (Holds.new w #[.slice none 0 0] 25).alloc (.cells #[.int .i64 (-1), .string ⟨#[]⟩, .slice none 0 0] 63)
  have hw1 : IntKind.i64.wrap (n + 1) = n + 1 := IntWalk.i64_in _ (by omega)
  go_enter Tryz.func7, Tryz.ntmps7
  go_wp2_with fail
  have hZn := Holds.newAt (w := (w.alloc (.cells #[.slice none 0 0] 25)).alloc (.cells #[.int .i64 (-1), .string ⟨#[]⟩, .slice none 0 0] 63)) (B := w.heap.size + 1 + 1) (by simp) #[.slice (some ⟨w.heap.size + 1, 0, none⟩) 1 1] 25
  have hb1 : Below w.heap.size w (((w.alloc (.cells #[.slice none 0 0] 25)).alloc (.cells #[.int .i64 (-1), .string ⟨#[]⟩, .slice none 0 0] 63)).alloc (.cells #[.slice (some ⟨w.heap.size + 1, 0, none⟩) 1 1] 25)) := (hb0.alloc (by simp) _).alloc (by simp; omega) _
  refine (mk_N B b (n + 1) _ (by exact h.new hb1) (by omega) (by omega)).mono ?_
  rintro e w1 ⟨r, rfl, hr1, hr2, ht1, k1⟩
  have hZ1 := hZn.keeps k1 (by omega)
  have hR1 := ((hr0.new (by exact (Below.refl _ _).alloc (Nat.le_refl _) _)).tape (by exact h.new hb1) k1)
  have hK1 := (Keeps.of_fresh hb1 (fun i => i = b)).trans k1 (fun _ _ e => e)
  have hZ1b : w.heap.size + 1 + 1 ≠ b := by omega
  have hszw : w.heap.size + 1 + 1 < w1.heap.size := hZ1.lt
  have hA0 : BusA B b w.heap.size (w.heap.size + 1 + 1) 1 w1 w1 := ⟨_, _, ht1, hZ1, (by simpa using hR1), shape_one, by simp [oneT], Keeps.refl _ _⟩
  have hZB : B ≤ w.heap.size + 1 + 1 := by omega
  have hbs : w.heap.size ≤ w1.heap.size := by omega
  clear hZ1 hR1 ht1 hZn hr0 hb0 hb1
  generalize hZdef : w.heap.size + 1 + 1 = Z at *
  generalize hRdef : w.heap.size = base at *
  go_upto_block 0 with fail
  go_cut [] (fun wx => BusA B b base Z (n + 1) w1 wx)
  case first =>
    go_wp2_with fail
    go_loopg [6] (r.toNat) (fun f x wr => ∃ (q m : Int), x = .int .i64 q ∧ 0 ≤ q ∧ q.toNat ≤ f ∧ m + q = r + 1 ∧ BusA B b base Z m w1 wr)
    case atStart => exact ⟨r, 1, rfl, hr1, by omega, by omega, hA0⟩
    case round =>
      obtain ⟨q, m, rfl, hq0, hqf, hqm, v, T, hT, hZ, hr, hs, hl, hk⟩ := hrel
      by_cases hq : 0 < q
      · have hX := hZ.cell 0
        have hXf := hZ.free 0
        have hs1 := hs.1
        have hbx : base ≤ wr.heap.size := Nat.le_trans hbs hk.size
        have hl2 : T.length ≤ 1000 := by omega
        go_wp2_with fail
        refine (grow_Step B b base v T _ hT hr hs1 hl2 hbx).mono ?_
        rintro e w2 ⟨v2, T2, rfl, hr2, hst, hT2, hk2⟩
        obtain ⟨a2, c2, rfl⟩ := hr2.slice
        have hZ2 := hZ.keeps hk2 hZ1b
        have y0 := hZ2.cell 0
        have yf := hZ2.free 0
        have hlen2 : ShapeB T2 ∧ (T2.length : Int) ≤ m + 1 := by
          rcases hst with rfl | h2
          · exact ⟨hs, by omega⟩
          · obtain ⟨sq, nq, hq, eq⟩ := h2 rfl
            obtain ⟨h3, h4⟩ := shapeB_add hs sq nq hq
            rw [← eq] at h3 h4
            exact ⟨h3, by omega⟩
        have k1 : Keeps (· = Z) w2 (w2.setCell ⟨Z, 0, none⟩ (.slice a2 T2.length c2)) := (Keeps.refl (· = Z) w2).setCell (p := ⟨Z, 0, none⟩) (Or.inr rfl) _
        have hfin : BusA B b base Z (m + 1) w1 (w2.setCell ⟨Z, 0, none⟩ (.slice a2 T2.length c2)) :=
          ⟨_, T2, hT2.keeps k1 (fun i e => by subst e; exact ⟨hZB, hZ1b⟩), hZ2.set 0 _, hr2.set hZ2 (by decide) (by decide) 0 _, hlen2.1, hlen2.2, (hk.trans (hk2.mono (fun i _ e => show i = b ∨ i = Z from Or.inl e)) (fun _ _ e => e)).trans (k1.mono (fun i _ e => show i = b ∨ i = Z from Or.inr e)) (fun _ _ e => e)⟩
        have HF := Lib.hid hfin
        clear hfin hlen2 hst
        go_wp2_with fail
        go_roundg (q - 1).toNat
        case measure => omega
        case rel => exact ⟨q - 1, m + 1, rfl, by omega, by omega, by omega, HF.out⟩
      · have hq0 : q = 0 := by omega
        subst hq0
        have hfin : BusA B b base Z (n + 1) w1 wr := ⟨v, T, hT, hZ, hr, hs, by omega, hk⟩
        have HF := Lib.hid hfin
        clear hfin
        go_wp2_with fail
        go_meet
        case rel => exact HF.out
  case rest =>
    obtain ⟨v, T, hT, hZ, hr, hs, hl, hk⟩ := hcut
    obtain ⟨wm, rfl⟩ : ∃ x : World, x = wc := ⟨_, rfl⟩
    have hX := hZ.cell 0
    have hXf := hZ.free 0
    obtain ⟨va, vc, rfl⟩ := hr.slice
    have hl2 : T.length ≤ 1000 := by omega
    have hmk := fun wx => make_ints T.length hl2 wx
    have hZa := (hZ.alloc (.cells (Array.replicate T.length (.int .i64 0)) 3)).cell 0
    go_upto_region 6 with fail
    go_cut [7, 8] (fun y z wx => ∃ gA gS : Nat, y = .slice (some ⟨gA, 0, none⟩) T.length T.length ∧ z = .slice (some ⟨gS, 0, none⟩) T.length T.length ∧ w1.heap.size ≤ gA ∧ w1.heap.size ≤ gS ∧ B ≤ gA ∧ B ≤ gS ∧ BusS B b base Z T.length gA gS w1 wx)
    case first =>
      go_region
      · go_wp2_with fail
        go_meet
        case rel => exact ⟨_, _, rfl, rfl, BusS.begin hZ1b hT hZ hr hs hk (Or.inl ⟨rfl, rfl⟩)⟩
      · go_wp2_with fail
        go_meet
        case rel => exact ⟨_, _, rfl, rfl, BusS.begin hZ1b hT hZ hr hs hk (Or.inr ⟨rfl, rfl⟩)⟩
    case rest =>
      clear hZa hmk hX hXf hZ hr hT hk hs
      obtain ⟨N, hN⟩ : ∃ N, T.length = N := ⟨_, rfl⟩
      rw [hN] at hcut hl hl2
      clear hN T
      obtain ⟨gA, gS, rfl, rfl, hgA, hgS, hBA, hBS, hB⟩ := hcut
      obtain ⟨wo, rfl⟩ : ∃ x : World, x = wc := ⟨_, rfl⟩
      obtain ⟨pa, pc, T, hZ, hr, hs, hTN⟩ := hB.var
      have hX := hZ.cell 0
      have hB' := Lib.hid hB
      clear hB hr hs hTN hZ
      go_upto_block 2 with fail
      refine wp_code (c' := busBlk 2) (by kernel_rfl) ?_
      refine bus_blk2 B b base Z N gA gS w1 _ hZ1b hbs hZB hl2 hgA hgS hBA hBS (by exact hB') ?_
      refine Lib.hid ?_
      rintro v9 v10 v11 v12 v13 v14 v15 v42 v43 v44 v45 v46 v47 v48 v49 v50 v51 v52 v53 v54 v55 v56 v57 v58 v59 v60 v61 v62 v63 v64 v65 v66 v67 v68 v69 v70 v71 v72 v73 v74 v75 v76 v77 v78 v79 v80 v81 v82 v83 v84 v85 v86 v87 v88 v89 v90 v91 v92 v93 v94 v95 v96 v97 v98 v99 v100 v101 v102 v103 v104 v105 v106 v107 v108 v109 v110 v111 v112 v113 v114 v115 v116 v117 v118 v119 v120 v121 v122 v123 v124 v125 v126 v127 v128 v129 v130 v131 v132 v133 v134 v135 v136 v137 v138 v139 v140 v141 v142 v143 v144 v145 v146 v147 v148 v149 v150 v151 v152 v153 v154 v155 v156 v157 v158 v159 v160 v161 v162 v163 v164 v165 v166 v167 v168 v169 v170 wc hcut
      clear hX hB'
      obtain ⟨w16, rfl⟩ : ∃ x : World, x = wc := ⟨_, rfl⟩
      have hT16 := hcut.1
      have HB16 := Lib.hid hcut
      clear hcut
      go_wp2_with fail
      refine (mk_N B b 12 _ hT16 (by omega) (by omega)).mono ?_
      rintro e w17 ⟨q, rfl, hq0, hq1, hT17, hk17⟩
      have HB17 := Lib.hid (HB16.out.call hZ1b hk17 hT17)
      clear HB16 hT16 hk17
      go_upto_if 173 with fail
      refine wp_code (c' := busIf 173) (by kernel_rfl) ?_
      refine bus_if173 B b base Z N gA gS w1 _ hZ1b hbs hZB hl2 hgA hgS hBA hBS q HB17 ?_
      refine Lib.hid ?_
      rintro v16 v173 v174 v175 v176 v177 v178 v179 v180 v181 v182 v183 v184 v185 v186 v187 v188 v189 v190 v191 v192 v193 v194 v195 v196 v197 v198 v199 v200 v201 wc hcut
      clear HB17 hT17 hq0 hq1
      obtain ⟨w20, rfl⟩ : ∃ x : World, x = wc := ⟨_, rfl⟩
      obtain ⟨hT20, ⟨v, T, hZ, hr, hs, hTN⟩, _, _, hk20⟩ := hcut
      obtain ⟨qa, qc, rfl⟩ := hr.slice
      have hbZ : base ≠ Z := by omega
      have hbb : base ≠ b := by omega
      have hR1 : Holds w1 base #[.slice none 0 0] 25 := (hH0.alloc (.cells #[.slice (some ⟨base + 1, 0, none⟩) 1 1] 25)).keeps k1 hbb
      have hR := hR1.keeps hk20 (by omega)
      have hX := hZ.cell 0
      have hY := hR.cell 0
      have hYf := hR.free 0
      have kz : Keeps (· = base) w20 (w20.setCell ⟨base, 0, none⟩ (.slice qa T.length qc)) := (Keeps.refl (· = base) w20).setCell (p := ⟨base, 0, none⟩) (Or.inr rfl) _
      have q0 := (hR.set 0 (.slice qa T.length qc)).cell 0
      have HF := Lib.hid (show TreeRow (w20.setCell ⟨base, 0, none⟩ (.slice qa T.length qc)) base (.slice qa T.length qc) T ∧ ShapeB T ∧ (T.length : Int) ≤ n + 1 ∧ Tape B (w20.setCell ⟨base, 0, none⟩ (.slice qa T.length qc)) b ∧ Keeps (· = b) w (w20.setCell ⟨base, 0, none⟩ (.slice qa T.length qc)) from
        ⟨hr.set hR (by decide) (by decide) 0 _, hs, by rw [hTN]; exact hl, hT20.keeps kz (fun i e => by subst e; exact ⟨hBw, hbb⟩),
          hK1.trans ((hk20.mono (fun i _ e => (show i = b ∨ i = Z ∨ i = base from by omega))).trans kz (fun i _ e => (show i = b ∨ i = Z ∨ i = base from by omega))) (fun i hi e => by omega)⟩)
      clear hT20 hr hs hTN hk20 hR hR1 hZ kz
      go_wp2_with fail
      exact bodyPost_ret (v := .agg #[.slice qa T.length qc]) (by simp [results, Tryz.results7, go_sem, q0]) rfl ⟨_, _, rfl, by rw [hRdef]; exact HF.out.1, HF.out.2⟩
end Go.Proofs.YthkoaakicdhnpaaGreat

namespace Go.Proofs.YthkoaakicdhnpaaGreat
open Go.RowKit

theorem ans_ints {w w' : World} {a : Option Addr} {len : Nat} (h : IntsIn w a len) (k : Below w.heap.size w w') : IntsIn w' a len := fun h0 => by
  obtain ⟨g, o, e, hc⟩ := h h0
  refine ⟨g, o, e, fun i hi => ?_⟩
  obtain ⟨n, c, r⟩ := hc i hi
  exact ⟨n, (k.cell (p := ⟨g, o + i, none⟩) (World.block_lt_of_cell? w _ c)).trans c, r⟩

set_option maxRecDepth 100000 in
set_option maxHeartbeats 8000000 in
theorem answers_walk (a0 : Option Addr) (len0 cap0 : Nat) (a1 : Option Addr) (c1 : Nat) (T0 : List NodeT) (node index : Int) (w : World) (hi : IntsIn w a0 len0) (hlc : len0 ≤ cap0) (hcap : cap0 ≤ maxLen) (hnil : a0 = none → len0 = 0 ∧ cap0 = 0)
    (hT : NodesIn (fun g => g < w.heap.size) w (.slice a1 T0.length c1) T0) (_ : (Lit.int .i64 node).wf = true) (_ : (Lit.int .i64 index).wf = true) :
    Calls Tryz.prog 3 #[.slice a0 len0 cap0, .agg #[.slice a1 T0.length c1], .int .i64 node, .int .i64 index] w fun e w' => e = .returned (.bool true) ∧ Below w.heap.size w w' := by
  have HT := Lib.hid hT; clear hT
  have hb0 : Below w.heap.size w (w.alloc (.cells #[.slice a1 T0.length c1] 25)) := (Below.refl w.heap.size w).alloc (Nat.le_refl _) _
  have hX0 := Holds.new w #[.slice a1 T0.length c1] 25
  have hsm := Lib.hid (grow_Small (fun g => g < w.heap.size) (.slice a1 T0.length c1) T0 _ (HT.out.new hb0))
  go_enter Tryz.func3, Tryz.ntmps3
  go_wp2_with fail
  refine hsm.out.mono ?_
  rintro e w1 ⟨sb, rfl, hb1⟩
  have hb2 := hb0.trans (hb1.mono (by simp))
  have hs2 := hb2.size
  cases sb with
  | true =>
    have hX1 := hX0.keeps (Keeps.of_fresh hb1 (fun _ => False)) (fun e => e)
    have hi1 : IntsIn w1 a0 len0 := ans_ints hi hb2
    have hnw := Lib.hid (mk_New a0 len0 cap0 w1 hi1 hlc hcap hnil)
    go_wp2_with fail
    refine hnw.out.mono ?_
    rintro e w2 ⟨b, rfl, hT2, hb3⟩
    have hbW := hT2.1
    have hbl2 := hT2.lt
    go_wp2_with fail
    refine (grow_Buses w1.heap.size b 8 w2 hT2 (by omega) (by omega)).mono ?_
    rintro e w3 ⟨va, A, rfl, hA3, hAc, hAl, hT3, hK3⟩
    obtain ⟨aa, ac, rfl⟩ := tree_slice hA3
    obtain ⟨hA1, _, hAm⟩ := hAc
    have hAl3 : Below w3.heap.size w3 (w3.alloc (.cells #[.slice aa A.length ac] 25)) := (Below.refl w3.heap.size w3).alloc (Nat.le_refl _) _
    have hA4 := hA3.new hAl3
    have hZ4 := Holds.new w3 #[.slice aa A.length ac] 25
    have hT4 := hT3.new hAl3
    have hxl := hX1.lt
    have hxb : w.heap.size ≠ b := by omega
    have hX3 := ((hX1.keeps (Keeps.of_fresh hb3 (fun _ => False)) (fun e => e)).keeps hK3 hxb).alloc (.cells #[.slice aa A.length ac] 25)
    have hb4 : Below w.heap.size w w3 := (hb2.trans (hb3.mono hs2)).trans (hK3.below (by have := hb3.size; omega) (fun i hi e => by omega))
    have hb5 := hb4.alloc hb4.size (.cells #[.slice aa A.length ac] 25)
    have hR4 := HT.out.new hb5
    have hK3s := hK3.size
    have hzb : w3.heap.size ≠ b := by have := hb3.size; omega
    have hb2w := hb3.size
    clear hb0 hX0 hsm hnw hX1 hi1 hi hT2 hT3 hK3 hb3 hA3 hAl3 hb4 hb1 hb2
    have y0 := hZ4.cell 0
    have yl := hZ4.lt
    go_upto_region 5 with fail
    generalize hW4 : w3.alloc (.cells #[.slice aa A.length ac] 25) = W4 at *
    have hW4s : W4.heap.size = w3.heap.size + 1 := by rw [← hW4]; simp
    clear hW4
    go_wp2_with fail
    refine (mk_N w1.heap.size b A.length _ (by exact hT4) (by omega) (by omega)).mono ?_
    rintro e W5 ⟨kk, rfl, hk0, _, hT5, hK5⟩
    obtain ⟨k, rfl⟩ := Int.eq_ofNat_of_zero_le hk0
    have hXNb : NodesIn (fun g => g ≠ b) W5 (.slice a1 T0.length c1) T0 := (hR4.mono (fun g h e => by subst e; omega)).keeps hK5 (fun _ h e => h e)
    have hANb : NodesIn (fun g => g ≠ b) W5 (.slice aa A.length ac) A := (hA4.in.mono (fun g h e => by subst e; omega)).keeps hK5 (fun _ h e => h e)
    have hX5 := hX3.keeps hK5 hxb
    have hZ5 := hZ4.keeps hK5 hzb
    have hb6 : Below w.heap.size w W5 := hb5.trans (hK5.below hb5.size (fun i hi e => by omega))
    have hbl5 := hT5.lt
    have hB5 : w1.heap.size ≤ W5.heap.size := by omega
    clear hT4 hK5 hX3 hZ4 hR4 hA4 hb5 y0 yl hk0
    go_upto_region 6 with fail
    refine wp_region_any (by kernel_rfl) ?_
    refine wpAny_ops (ops' := adsOps 6) (by kernel_rfl) ?_
    refine ads_region w1.heap.size b W5.heap.size k w3.heap.size aa ac A W5 _ _ rfl (Nat.le_refl _) hbl5 hB5 hZ5 hzb hANb rfl rfl rfl ⟨hT5.keeps ((Keeps.refl (fun _ => False) W5).drew) (fun _ e => e.elim), (Keeps.refl _ W5).drew⟩ ?_
    intro c W6 N v T er hsb hT6 hK6 h12 h13 hNW hO6 hr6
    obtain ⟨va6, vc6, rfl⟩ := tree_slice hr6
    obtain ⟨y12, y13, y53, y54, y55, y56, y57, y58, y59, y60, y61, y62, y63, y64, y65, y66, y67, y68, y69, y70, y71, y72, y73, y74, y75, y76, y77, y78, y79, y80, hc⟩ := hsb.ex [12, 13, 53, 54, 55, 56, 57, 58, 59, 60, 61, 62, 63, 64, 65, 66, 67, 68, 69, 70, 71, 72, 73, 74, 75, 76, 77, 78, 79, 80] (by kernel_rfl)
    subst hc
    simp only [List.setIfInBounds_toArray, List.set_cons_zero, List.set_cons_succ] at h12 h13 ⊢
    have e12 : y12 = .pointer (some ⟨N, 0, none⟩) := h12
    have e13 : y13 = .int .i64 er := h13
    subst e12 e13
    have hONb : NodesIn (fun g => g ≠ b) W6 (.slice va6 T.length vc6) T := hr6.in.mono (fun g h e => by subst e; omega)
    have hXN6 := hXNb.keeps hK6 (fun _ h e => h e)
    have hAN6 := hANb.keeps hK6 (fun _ h e => h e)
    have hX6 := hX5.keeps hK6 hxb
    have hZ6 := hZ5.keeps hK6 hzb
    have hob : N ≠ b := by omega
    have hb7 : Below w.heap.size w W6 := hb6.trans (hK6.below hb6.size (fun i hi e => by omega))
    clear hsb h12 h13 hr6 hXNb hANb hX5 hZ5 hb6 hT5 hK6
    go_upto_region 7 with fail
    refine wp_region_any (by kernel_rfl) ?_
    refine wpAny_ops (ops' := blaOps 7) (by kernel_rfl) ?_
    refine bla_region w1.heap.size b 10 24 w.heap.size w3.heap.size N a1 c1 T0 aa ac A va6 vc6 T W6 _ _ rfl (by omega) hAm (by omega) (by omega) hX6 hZ6 hO6 hob hONb rfl hxb hzb hXN6 hAN6 rfl rfl rfl ⟨hT6.keeps ((Keeps.refl (fun _ => False) W6).drew) (fun _ e => e.elim), (Keeps.refl _ W6).drew⟩ ?_
    intro c W7 hsb hT7 hK7 hTF h88 h89
    obtain ⟨y81, y82, y83, y84, y85, y86, y87, y88, y89, hc⟩ := hsb.ex [81, 82, 83, 84, 85, 86, 87, 88, 89] (by kernel_rfl)
    subst hc
    simp only [List.setIfInBounds_toArray, List.set_cons_zero, List.set_cons_succ] at hTF h88 h89 ⊢
    have hTF' : TreesF b 4 y87 W7 := hTF
    have e88 : y88 = .int .i64 4 := h88
    have e89 : y89 = .int .i64 0 := h89
    obtain ⟨Lb, e87, hLb, htr⟩ := hTF'
    subst e88 e89 e87
    have HTR := Lib.hid htr
    have hb8 : Below w.heap.size w W7 := hb7.trans (hK7.below hb7.size (fun i hi e => by omega))
    have hs8 := hb8.size
    clear hTF h88 h89 hsb htr hX6 hZ6 hO6 hONb hXN6 hAN6 hT6 hK7 hb7
    go_wp2_with fail
    go_loopg [89] 4 (fun f x wr => ∃ i : Nat, x = .int .i64 i ∧ i ≤ 4 ∧ 4 ≤ i + f ∧ Tape w1.heap.size wr b ∧ Keeps (fun i => i = b) W7 wr)
    case atStart => exact ⟨0, rfl, by omega, by omega, hT7, Keeps.refl _ _⟩
    case round =>
      obtain ⟨i, rfl, hi4, hif, hTr, hKr⟩ := hrel
      by_cases hlt : i < 4
      · have hlI : (i : Int) < 4 := by omega
        obtain ⟨ya, yc, Y, hcell, hYN⟩ := HTR.out i hlt
        have hcr := (hKr.cell (p := ⟨Lb, i, none⟩) (World.block_lt_of_cell? W7 _ hcell) hLb).trans hcell
        go_upto_block 1 with fail
        refine wp_code (c' := ansBlk 1) (by kernel_rfl) ?_
        refine ans_tree w1.heap.size b Lb i yc node index ya Y wr hTr (hYN.keeps hKr (fun _ h e => h e)) hcr hlt ?_
        refine Lib.hid ?_
        rintro x8 x15 x16 x17 x18 x19 x20 x21 x22 x23 x25 x26 x27 x28 x29 x30 x31 x32 x33 x34 x35 x36 x37 x38 x39 x91 x92 x93 x94 x95 x96 x97 x98 x99 x100 x101 x102 x103 x104 x105 x106 x107 x108 x109 x110 x111 x112 x113 x114 x115 x116 x117 x118 x119 x120 x121 x122 x123 x124 x125 x126 x127 x128 x129 x130 x131 x132 x133 x134 x135 x136 x137 x138 x139 x140 x141 x142 x143 x144 x145 x146 x147 x148 x149 x150 x151 x152 x153 x154 x155 x156 x157 x158 x159 x160 x161 x162 x163 x164 x165 x166 x167 x168 x169 x170 x171 x172 x173 x174 x175 x176 x177 x178 x179 x180 x181 x182 x183 x184 x185 x186 x187 x188 x189 x190 x191 x192 x193 x194 x195 x196 x197 x198 x199 x200 x201 x202 x203 x204 x205 x206 x207 x208 x209 x210 x211 x212 x213 x214 x215 x216 x217 x218 x219 x220 x221 x222 x223 x224 x225 x226 x227 x228 x229 x230 x231 wx ⟨hTx, hKx⟩
        go_wp2_with fail
        go_roundg (gk - 1)
        case measure => omega
        case rel => exact ⟨i + 1, by go_num, by omega, by omega, hTx, hKr.trans hKx (fun _ _ e => e)⟩
      · have hlI : ¬ (i : Int) < 4 := by omega
        have hb9 : Below w.heap.size w wr := hb8.trans (hKr.below hs8 (fun i hi e => by omega))
        go_wp2_with fail
        refine (law_awake _).mono ?_
        rintro e w9 ⟨rfl, hb10⟩
        go_wp2_with fail
        go_ret
        exact ⟨rfl, hb9.trans (hb10.mono hb9.size)⟩
  | false =>
    go_wp2_with fail
    refine (law_awake _).mono ?_
    rintro e w9 ⟨rfl, hb10⟩
    go_wp2_with fail
    go_ret
    exact ⟨rfl, hb2.trans (hb10.mono hs2)⟩
end Go.Proofs.YthkoaakicdhnpaaGreat
