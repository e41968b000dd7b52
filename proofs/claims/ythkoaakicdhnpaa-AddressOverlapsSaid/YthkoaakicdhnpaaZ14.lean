/- Contracts of bringupgrow: pieces of Buses: the loop over the nodes (printed by gbus.py) | Contracts of bringupgrow: Buses. | The contract of Overlaps of address. | The innermost block of AddressOverlaps: two regions are compared, and looked for in the list (printed by glov.py). | Contracts of bringupref11: count, Cells. | Contracts of bringupref11: numbers. | Contracts of bringupref11: regions, Regions. | The law AddressOverlaps: its walk. -/
import Derived.Test.YthkoaakicdhnpaaZ13
import Derived.Deep.LoopGhost
import Derived.Deep.DeepCutAuto
import Derived.Deep.CutBlock
import Derived.Test.YthkoaakicdhnpaaZ12
import Derived.Test.YthkoaakicdhnpaaZ3
import Derived.Laws.AppendOwnNone
import Derived.ArgAppend
import Derived.Test.YthkoaakicdhnpaaZ2
import Derived.Deep.CutRange
import Derived.Test.YthkoaakicdhnpaaZ15
import Derived.Test.YthkoaakicdhnpaaZ11
import Derived.Test.YthkoaakicdhnpaaZ7
import Derived.Test.YthkoaakicdhnpaaZ6
import Derived.Test.YthkoaakicdhnpaaZ16
import Derived.BigQuiet

namespace Go.Proofs.Ythkoaakicdhnpaa
open Go.RowKit

set_option maxHeartbeats 4000000 in
set_option maxRecDepth 100000 in
theorem bus_blk2 {Q : Exit → Act → World → Prop} (B b base Z N gA gS : Nat) (w1 w : World) (hZ1b : Z ≠ b) (hbs : base ≤ w1.heap.size) (hZB : B ≤ Z) (hl2 : N ≤ 1000) (hgA : w1.heap.size ≤ gA) (hgS : w1.heap.size ≤ gS) (hBA : B ≤ gA) (hBS : B ≤ gS)  {u1 u2 u3 u4 u6 u9 u10 u11 u12 u13 u14 u15 u16 u17 u18 u19 u20 u21 u22 u23 u24 u25 u26 u27 u28 u29 u30 u31 u32 u33 u34 u35 u36 u37 u38 u39 u40 u43 u44 u45 u46 u47 u48 u49 u50 u51 u52 u53 u54 u55 u56 u57 u58 u59 u60 u61 u62 u63 u64 u65 u66 u67 u68 u69 u70 u71 u72 u73 u74 u75 u76 u77 u78 u79 u80 u81 u82 u83 u84 u85 u86 u87 u88 u89 u90 u91 u92 u93 u94 u95 u96 u97 u98 u99 u100 u101 u102 u103 u104 u105 u106 u107 u108 u109 u110 u111 u112 u113 u114 u115 u116 u117 u118 u119 u120 u121 u122 u123 u124 u125 u126 u127 u128 u129 u130 u131 u132 u133 u134 u135 u136 u137 u138 u139 u140 u141 u142 u143 u144 u145 u146 u147 u148 u149 u150 u151 u152 u153 u154 u155 u156 u157 u158 u159 u160 u161 u162 u163 u164 u165 u166 u167 u168 u169 u170 u171 u172 u173 u174 u175 u176 u177 u178 u179 u180 u181 u182 u183 u184 u185 u186 u187 u188 u189 u190 u191 u192 u193 u194 u195 u196 u197 u198 u199 u200 u201 u202 : Value}
    (hB : Hid (BusS B b base Z N gA gS w1 w)) (hQ : Hid (∀ (x9 x10 x11 x12 x13 x14 x15 x42 x43 x44 x45 x46 x47 x48 x49 x50 x51 x52 x53 x54 x55 x56 x57 x58 x59 x60 x61 x62 x63 x64 x65 x66 x67 x68 x69 x70 x71 x72 x73 x74 x75 x76 x77 x78 x79 x80 x81 x82 x83 x84 x85 x86 x87 x88 x89 x90 x91 x92 x93 x94 x95 x96 x97 x98 x99 x100 x101 x102 x103 x104 x105 x106 x107 x108 x109 x110 x111 x112 x113 x114 x115 x116 x117 x118 x119 x120 x121 x122 x123 x124 x125 x126 x127 x128 x129 x130 x131 x132 x133 x134 x135 x136 x137 x138 x139 x140 x141 x142 x143 x144 x145 x146 x147 x148 x149 x150 x151 x152 x153 x154 x155 x156 x157 x158 x159 x160 x161 x162 x163 x164 x165 x166 x167 x168 x169 x170 : Value) (wx : World), BusS B b base Z N gA gS w1 wx → Q .normal ⟨#[.pointer (some ⟨b, 0, none⟩), u1, u2, u3, u4, .pointer (some ⟨Z, 0, none⟩), u6, .slice (some ⟨gA, 0, none⟩) N N, .slice (some ⟨gS, 0, none⟩) N N, x9, x10, x11, x12, x13, x14, x15, u16, u17, u18, u19, u20, u21, u22, u23, u24, u25, u26, u27, u28, u29, u30, u31, u32, u33, u34, u35, u36, u37, u38, u39, u40, .int .i64 N, x42, x43, x44, x45, x46, x47, x48, x49, x50, x51, x52, x53, x54, x55, x56, x57, x58, x59, x60, x61, x62, x63, x64, x65, x66, x67, x68, x69, x70, x71, x72, x73, x74, x75, x76, x77, x78, x79, x80, x81, x82, x83, x84, x85, x86, x87, x88, x89, x90, x91, x92, x93, x94, x95, x96, x97, x98, x99, x100, x101, x102, x103, x104, x105, x106, x107, x108, x109, x110, x111, x112, x113, x114, x115, x116, x117, x118, x119, x120, x121, x122, x123, x124, x125, x126, x127, x128, x129, x130, x131, x132, x133, x134, x135, x136, x137, x138, x139, x140, x141, x142, x143, x144, x145, x146, x147, x148, x149, x150, x151, x152, x153, x154, x155, x156, x157, x158, x159, x160, x161, x162, x163, x164, x165, x166, x167, x168, x169, x170, u171, u172, u173, u174, u175, u176, u177, u178, u179, u180, u181, u182, u183, u184, u185, u186, u187, u188, u189, u190, u191, u192, u193, u194, u195, u196, u197, u198, u199, u200, u201, u202], []⟩ wx)) :
    (busBlk 2).wp Try.prog Q ⟨#[.pointer (some ⟨b, 0, none⟩), u1, u2, u3, u4, .pointer (some ⟨Z, 0, none⟩), u6, .slice (some ⟨gA, 0, none⟩) N N, .slice (some ⟨gS, 0, none⟩) N N, u9, u10, u11, u12, u13, u14, u15, u16, u17, u18, u19, u20, u21, u22, u23, u24, u25, u26, u27, u28, u29, u30, u31, u32, u33, u34, u35, u36, u37, u38, u39, u40, .int .i64 N, .int .i64 0, u43, u44, u45, u46, u47, u48, u49, u50, u51, u52, u53, u54, u55, u56, u57, u58, u59, u60, u61, u62, u63, u64, u65, u66, u67, u68, u69, u70, u71, u72, u73, u74, u75, u76, u77, u78, u79, u80, u81, u82, u83, u84, u85, u86, u87, u88, u89, u90, u91, u92, u93, u94, u95, u96, u97, u98, u99, u100, u101, u102, u103, u104, u105, u106, u107, u108, u109, u110, u111, u112, u113, u114, u115, u116, u117, u118, u119, u120, u121, u122, u123, u124, u125, u126, u127, u128, u129, u130, u131, u132, u133, u134, u135, u136, u137, u138, u139, u140, u141, u142, u143, u144, u145, u146, u147, u148, u149, u150, u151, u152, u153, u154, u155, u156, u157, u158, u159, u160, u161, u162, u163, u164, u165, u166, u167, u168, u169, u170, u171, u172, u173, u174, u175, u176, u177, u178, u179, u180, u181, u182, u183, u184, u185, u186, u187, u188, u189, u190, u191, u192, u193, u194, u195, u196, u197, u198, u199, u200, u201, u202], []⟩ w := by
  simp only [busBlk, blkOf, Try.f5, Option.getD_some, reduceIte, Nat.reduceEqDiff]
  go_wp2_with fail
  go_loopg [42] N (fun f c wr => ∃ k : Nat, c = .int .i64 k ∧ k ≤ N ∧ N ≤ k + f ∧ BusS B b base Z N gA gS w1 wr)
  case atStart => exact ⟨0, rfl, by omega, by omega, hB.out⟩
  case round =>
    clear hB
    obtain ⟨k, rfl, hkN, hkf, hB⟩ := hrel
    by_cases hlt : k < N
    · have hlt' : (k : Int) < N := by omega
      obtain ⟨⟨lA, hA, hA1, xA, hcA⟩, ⟨lS, hS, hS1, xS, hcS⟩⟩ := hB.row hlt
      have hfA := hA.free k
      have hB1 := hB.put hZ1b (k := k) hA hA1.out hgA 1 (by simp) hBA
      obtain ⟨_, ⟨lS1, hS1, hS11, xS1, hcS1⟩⟩ := hB1.row hlt
      have hfS1 := hS1.free k
      have hB2 := hB1.put hZ1b (k := k) hS1 hS11.out hgS 1 (by simp) hBS
      obtain ⟨ta, tc, T, hZ, hr, hs, hTN⟩ := hB2.var
      have hX := hZ.cell 0
      have HB2 := Lib.hid hB2
      clear hB hB1 hA hS hS1 hB2 hA1 hS11
      go_wp2_with fail
      refine (ref3_Path (fun g => base ≤ g) _ T k _ (by exact hr.in)).mono ?_
      rintro e w2 ⟨rfl, hb2⟩
      have hB3 := HB2.out.new hZ1b hb2
      clear HB2 hb2 hX hZ hr hs hTN hcA hcS hfA hfS1 hcS1
      generalize pathQ T k = s
      clear T
      have hT3 := hB3.1
      have HB3 := Lib.hid hB3
      clear hB3
      go_wp2_with fail
      refine (mk_N B b 3 _ hT3 (by omega) (by omega)).mono ?_
      rintro e w3 ⟨q, rfl, hq0, hq1, hT4, hk4⟩
      have HB4 := Lib.hid (HB3.out.call hZ1b hk4 hT4)
      clear HB3 hT3 hk4 hT4
      go_upto_if 56 with fail
      refine wp_code (c' := busIf 56) (by kernel_rfl) ?_
      refine bus_if56 B b base Z N gA gS w1 _ hZ1b hbs hZB hl2 hgA hgS hBA hBS k hlt s q HB4 ?_
      refine Lib.hid ?_
      rintro v56 v57 v58 v59 v60 v61 v62 v63 v64 v65 v66 v67 v68 v69 v70 w6 hB6
      have hT6 := hB6.1
      have HB6 := Lib.hid hB6
      clear hB6 HB4 hq0 hq1
      go_wp2_with fail
      refine (mk_N B b 3 _ hT6 (by omega) (by omega)).mono ?_
      rintro e w7 ⟨q, rfl, hq0, hq1, hT7, hk7⟩
      have HB7 := Lib.hid (HB6.out.call hZ1b hk7 hT7)
      clear HB6 hT6 hk7 hT7
      go_upto_if 73 with fail
      refine wp_code (c' := busIf 73) (by kernel_rfl) ?_
      refine bus_if73 B b base Z N gA gS w1 _ hZ1b hbs hZB hl2 hgA hgS hBA hBS k hlt s q HB7 ?_
      refine Lib.hid ?_
      rintro v73 v74 v75 v76 v77 v78 v79 v80 v81 v82 v83 v84 v85 v86 v87 w8 hcut
      clear HB7 hq0 hq1
      by_cases hk0 : k = 0
      · have hz : ((k : Int) == 0) = true := by simp [hk0]
        have HK := Lib.hid hk0
        have HB8 := Lib.hid hcut
        clear hk0 hcut
        go_wp2_with fail
        go_roundg (N - 1)
        case measure => have := HK.out; omega
        case rel => exact ⟨k + 1, by go_num, by omega, by have := HK.out; omega, HB8.out⟩
      · have hz : ((k : Int) == 0) = false := by rw [beq_eq_false_iff_ne]; omega
        have hk1 : 0 < k := by omega
        clear hk0
        obtain ⟨ta2, tc2, T, hZ, hr, hs, hTN⟩ := hcut.var
        have hkT : k < T.length := by rw [hTN.out]; exact hlt
        obtain ⟨g, o, pa2, pc2, rfl, -, c0, -⟩ := hr.in.at k hkT
        obtain ⟨hp0, hp1⟩ := hs.2.1 k hk1 hkT
        rw [parOf_at hkT] at hp0 hp1
        generalize T[k].parent = p at *
        obtain ⟨i1, rfl⟩ := Int.eq_ofNat_of_zero_le hp0
        have hi1 : i1 < N := by omega
        have hX := hZ.cell 0
        have hT8 := hcut.1
        have HB8 := Lib.hid hcut
        clear hcut hr hs hTN hkT hZ
        go_wp2_with fail
        refine (mk_N B b 3 _ hT8 (by omega) (by omega)).mono ?_
        rintro e w9 ⟨q, rfl, hq0, hq1, hT9, hk9⟩
        have HB9 := Lib.hid (HB8.out.call hZ1b hk9 hT9)
        clear HB8 hT8 hk9 hT9 c0 hX hp1 hp0
        go_upto_block 4 with fail
        refine wp_code (c' := busBlk 4) (by kernel_rfl) ?_
        refine bus_blk4 B b base Z N gA gS w1 _ hZ1b hbs hZB hl2 hgA hgS hBA hBS k i1 hlt hi1 q hq0 hq1 HB9 ?_
        refine Lib.hid ?_
        rintro v12 v14 v98 v99 v100 v101 v102 v103 v104 v105 v106 v107 v108 v109 v110 v111 v112 v113 v114 v115 v116 v117 v118 v119 v120 v121 v122 w10 ⟨⟨t, rfl, ht⟩, hB10⟩
        clear HB9 hq0 hq1
        have hT10 := hB10.1
        have HB10 := Lib.hid hB10
        clear hB10
        go_wp2_with fail
        refine (mk_N B b 3 _ hT10 (by omega) (by omega)).mono ?_
        rintro e w11 ⟨q2, rfl, hq0, hq1, hT11, hk11⟩
        have HB11 := Lib.hid (HB10.out.call hZ1b hk11 hT11)
        clear HB10 hT10 hk11 hT11
        go_upto_block 6 with fail
        refine wp_code (c' := busBlk 6) (by kernel_rfl) ?_
        refine bus_blk6 B b base Z N gA gS w1 _ hZ1b hbs hZB hl2 hgA hgS hBA hBS k i1 hlt hi1 q2 hq0 hq1 HB11 ?_
        refine Lib.hid ?_
        rintro v13 v15 v125 v126 v127 v128 v129 v130 v131 v132 v133 v134 v135 v136 v137 v138 v139 v140 v141 v142 v143 v144 v145 v146 v147 v148 v149 v150 v151 v152 v153 v154 v155 v156 w12 ⟨⟨t2, rfl, ht2⟩, hB12⟩
        clear HB11 hq0 hq1
        have HB12 := Lib.hid hB12
        clear hB12
        go_upto_if 158 with fail
        generalize (!t.toList.isEmpty) = zb
        refine wp_code (c' := busIf 158) (by kernel_rfl) ?_
        refine bus_if158 B b base Z N gA gS w1 _ hZ1b hbs hZB hl2 hgA hgS hBA hBS s t ht zb HB12 ?_
        refine Lib.hid ?_
        rintro v158 v159 v160 v161 v162 w13 hcut
        clear HB12
        have hT13 := hcut.1
        have HB13 := Lib.hid hcut
        clear hcut
        go_wp2_with fail
        refine (mk_N B b 4 _ hT13 (by omega) (by omega)).mono ?_
        rintro e w14 ⟨q4, rfl, hq0, hq1, hT14, hk14⟩
        have HB14 := Lib.hid (HB13.out.call hZ1b hk14 hT14)
        clear HB13 hT13 hk14 hT14
        go_upto_if 165 with fail
        refine wp_code (c' := busIf 165) (by kernel_rfl) ?_
        refine bus_if165 B b base Z N gA gS w1 _ hZ1b hbs hZB hl2 hgA hgS hBA hBS s t2 ht2 q4 HB14 ?_
        refine Lib.hid ?_
        rintro v165 v166 v167 v168 v169 w15 hcut
        have HB15 := Lib.hid hcut
        clear hcut HB14
        go_wp2_with fail
        go_roundg (N - k - 1)
        case measure => omega
        case rel => exact ⟨k + 1, by go_num, by omega, by omega, HB15.out⟩
    · have hB' := Lib.hid hB
      clear hB
      go_wp2_with fail
      exact hQ.out _ _ _ _ _ _ _ _ _ _ _ _ _ _ _ _ _ _ _ _ _ _ _ _ _ _ _ _ _ _ _ _ _ _ _ _ _ _ _ _ _ _ _ _ _ _ _ _ _ _ _ _ _ _ _ _ _ _ _ _ _ _ _ _ _ _ _ _ _ _ _ _ _ _ _ _ _ _ _ _ _ _ _ _ _ _ _ _ _ _ _ _ _ _ _ _ _ _ _ _ _ _ _ _ _ _ _ _ _ _ _ _ _ _ _ _ _ _ _ _ _ _ _ _ _ _ _ _ _ _ _ _ _ _ _ _ _ hB'.out
end Go.Proofs.Ythkoaakicdhnpaa

namespace Go.Proofs.Ythkoaakicdhnpaa
open Go.RowKit

/-- The tree of the first node alone. -/
def oneT : List NodeT := [⟨-1, ⟨#[]⟩, []⟩]
theorem first_tree (w : World) (base : Nat) (hb : base ≤ w.heap.size) : TreeRow (w.alloc (.cells #[.int .i64 (-1), .string ⟨#[]⟩, .slice none 0 0] 38)) base (.slice (some ⟨w.heap.size, 0, none⟩) 1 1) oneT := by
  refine ⟨[.slice none 0 0], rfl, ?_, ?_, ?_⟩
  · exact World.ownsRow_lit w #[.int .i64 (-1), .string ⟨#[]⟩, .slice none 0 0] 1 hb (by decide) (by decide)
  · intro k hk hk2
    obtain rfl : k = 0 := by simp [oneT] at hk; exact hk
    exact PropRow.nil _ _
  · intro m hm
    simp only [oneT, List.mem_singleton] at hm
    subst hm
    unfold NodeOk; decide

theorem shape_one : Shape oneT := ⟨by decide, fun i h1 h2 => by simp [oneT] at h2; omega, rfl⟩

/-- Buses in its first loop. -/
def BusA (B b base Z : Nat) (m : Int) (W w : World) : Prop := ∃ v T, Tape B w b ∧ Holds w Z #[v] 27 ∧ TreeRow w base v T ∧ Shape T ∧ (T.length : Int) ≤ m ∧ Keeps (fun i => i = b ∨ i = Z) W w

set_option maxHeartbeats 4000000 in
set_option maxRecDepth 100000 in
theorem grow_Buses (B b : Nat) (n : Int) (w : World) (h : Tape B w b) (hn : 0 ≤ n) (hn2 : n ≤ 20) :
    Calls Try.prog 5 #[.pointer (some ⟨b, 0, none⟩), .int .i64 n] w fun e w' => ∃ v T, e = .returned (.agg #[v]) ∧ TreeRow w' w.heap.size v T ∧ Shape T ∧ (T.length : Int) ≤ n + 1 ∧ Tape B w' b ∧ Keeps (· = b) w w' := by
  have hlt := h.lt
  have hBw : B ≤ w.heap.size := Nat.le_trans h.1 (Nat.le_of_lt hlt)

  have hb0 : Below w.heap.size w (w.alloc (.cells #[.slice none 0 0] 27)) := (Below.refl _ _).alloc (Nat.le_refl _) _
  have hr0 := first_tree (w.alloc (.cells #[.slice none 0 0] 27)) w.heap.size (by simp)
  have hH0 := (Holds.new w #[.slice none 0 0] 27).alloc (.cells #[.int .i64 (-1), .string ⟨#[]⟩, .slice none 0 0] 38)
  have hw1 : IntKind.i64.wrap (n + 1) = n + 1 := IntWalk.i64_in _ (by omega)
  go_enter Try.func5, Try.ntmps5
  go_wp2_with fail
  have hZn := Holds.newAt (w := (w.alloc (.cells #[.slice none 0 0] 27)).alloc (.cells #[.int .i64 (-1), .string ⟨#[]⟩, .slice none 0 0] 38)) (B := w.heap.size + 1 + 1) (by simp) #[.slice (some ⟨w.heap.size + 1, 0, none⟩) 1 1] 27
  have hb1 : Below w.heap.size w (((w.alloc (.cells #[.slice none 0 0] 27)).alloc (.cells #[.int .i64 (-1), .string ⟨#[]⟩, .slice none 0 0] 38)).alloc (.cells #[.slice (some ⟨w.heap.size + 1, 0, none⟩) 1 1] 27)) := (hb0.alloc (by simp) _).alloc (by simp; omega) _
  refine (mk_N B b (n + 1) _ (by exact h.new hb1) (by omega) (by omega)).mono ?_
  rintro e w1 ⟨r, rfl, hr1, hr2, ht1, k1⟩
  have hZ1 := hZn.keeps k1 (by omega)
  have hR1 := ((hr0.new (by exact (Below.refl _ _).alloc (Nat.le_refl _) _)).tape (by exact h.new hb1) k1)
  have hK1 := (Keeps.of_fresh hb1 (fun i => i = b)).trans k1 (fun _ _ e => e)
  have hZ1b : w.heap.size + 1 + 1 ≠ b := by omega
  have hszw : w.heap.size + 1 + 1 < w1.heap.size := hZ1.lt
  have hA0 : BusA B b w.heap.size (w.heap.size + 1 + 1) 1 w1 w1 := ⟨_, _, ht1, hZ1, (by simpa using hR1), shape_one, by simp [oneT], Keeps.refl _ _⟩
  have hZB : B ≤ w.heap.size + 1 + 1 := by omega
  have hbs : w.heap.size ≤ w1.heap.size := by omega
  clear hZ1 hR1 ht1 hZn hr0 hb0 hb1
  generalize hZdef : w.heap.size + 1 + 1 = Z at *
  generalize hRdef : w.heap.size = base at *
  go_upto_block 0 with fail
  go_cut [] (fun wx => BusA B b base Z (n + 1) w1 wx)
  case first =>
    go_wp2_with fail
    go_loopg [6] (r.toNat) (fun f x wr => ∃ (q m : Int), x = .int .i64 q ∧ 0 ≤ q ∧ q.toNat ≤ f ∧ m + q = r + 1 ∧ BusA B b base Z m w1 wr)
    case atStart => exact ⟨r, 1, rfl, hr1, by omega, by omega, hA0⟩
    case round =>
      obtain ⟨q, m, rfl, hq0, hqf, hqm, v, T, hT, hZ, hr, hs, hl, hk⟩ := hrel
      by_cases hq : 0 < q
      · have hX := hZ.cell 0
        have hXf := hZ.free 0
        have hs1 := hs.1
        have hbx : base ≤ wr.heap.size := Nat.le_trans hbs hk.size
        have hl2 : T.length ≤ 1000 := by omega
        go_wp2_with fail
        refine (grow_Step B b base v T _ hT hr hs1 hl2 hbx).mono ?_
        rintro e w2 ⟨v2, T2, rfl, hr2, hst, hT2, hk2⟩
        obtain ⟨a2, c2, rfl⟩ := hr2.slice
        have hZ2 := hZ.keeps hk2 hZ1b
        have y0 := hZ2.cell 0
        have yf := hZ2.free 0
        have hlen2 : Shape T2 ∧ (T2.length : Int) ≤ m + 1 := by
          rcases hst with rfl | h2
          · exact ⟨hs, by omega⟩
          · obtain ⟨sq, nq, hq, eq⟩ := h2 rfl
            obtain ⟨h3, h4⟩ := shape_add hs sq nq hq
            rw [← eq] at h3 h4
            exact ⟨h3, by omega⟩
        have k1 : Keeps (· = Z) w2 (w2.setCell ⟨Z, 0, none⟩ (.slice a2 T2.length c2)) := (Keeps.refl (· = Z) w2).setCell (p := ⟨Z, 0, none⟩) (Or.inr rfl) _
        have hfin : BusA B b base Z (m + 1) w1 (w2.setCell ⟨Z, 0, none⟩ (.slice a2 T2.length c2)) :=
          ⟨_, T2, hT2.keeps k1 (fun i e => by subst e; exact ⟨hZB, hZ1b⟩), hZ2.set 0 _, hr2.set hZ2 (by decide) (by decide) 0 _, hlen2.1, hlen2.2, (hk.trans (hk2.mono (fun i _ e => show i = b ∨ i = Z from Or.inl e)) (fun _ _ e => e)).trans (k1.mono (fun i _ e => show i = b ∨ i = Z from Or.inr e)) (fun _ _ e => e)⟩
        have HF := Lib.hid hfin
        clear hfin hlen2 hst
        go_wp2_with fail
        go_roundg (q - 1).toNat
        case measure => omega
        case rel => exact ⟨q - 1, m + 1, rfl, by omega, by omega, by omega, HF.out⟩
      · have hq0 : q = 0 := by omega
        subst hq0
        have hfin : BusA B b base Z (n + 1) w1 wr := ⟨v, T, hT, hZ, hr, hs, by omega, hk⟩
        have HF := Lib.hid hfin
        clear hfin
        go_wp2_with fail
        go_meet
        case rel => exact HF.out
  case rest =>
    obtain ⟨v, T, hT, hZ, hr, hs, hl, hk⟩ := hcut
    obtain ⟨wm, rfl⟩ : ∃ x : World, x = wc := ⟨_, rfl⟩
    have hX := hZ.cell 0
    have hXf := hZ.free 0
    obtain ⟨va, vc, rfl⟩ := hr.slice
    have hl2 : T.length ≤ 1000 := by omega
    have hmk := fun wx => make_ints T.length hl2 wx
    have hZa := (hZ.alloc (.cells (Array.replicate T.length (.int .i64 0)) 3)).cell 0
    go_upto_region 6 with fail
    go_cut [7, 8] (fun y z wx => ∃ gA gS : Nat, y = .slice (some ⟨gA, 0, none⟩) T.length T.length ∧ z = .slice (some ⟨gS, 0, none⟩) T.length T.length ∧ w1.heap.size ≤ gA ∧ w1.heap.size ≤ gS ∧ B ≤ gA ∧ B ≤ gS ∧ BusS B b base Z T.length gA gS w1 wx)
    case first =>
      go_region
      · go_wp2_with fail
        go_meet
        case rel => exact ⟨_, _, rfl, rfl, BusS.begin hZ1b hT hZ hr hs hk (Or.inl ⟨rfl, rfl⟩)⟩
      · go_wp2_with fail
        go_meet
        case rel => exact ⟨_, _, rfl, rfl, BusS.begin hZ1b hT hZ hr hs hk (Or.inr ⟨rfl, rfl⟩)⟩
    case rest =>
      clear hZa hmk hX hXf hZ hr hT hk hs
      obtain ⟨N, hN⟩ : ∃ N, T.length = N := ⟨_, rfl⟩
      rw [hN] at hcut hl hl2
      clear hN T
      obtain ⟨gA, gS, rfl, rfl, hgA, hgS, hBA, hBS, hB⟩ := hcut
      obtain ⟨wo, rfl⟩ : ∃ x : World, x = wc := ⟨_, rfl⟩
      obtain ⟨pa, pc, T, hZ, hr, hs, hTN⟩ := hB.var
      have hX := hZ.cell 0
      have hB' := Lib.hid hB
      clear hB hr hs hTN hZ
      go_upto_block 2 with fail
      refine wp_code (c' := busBlk 2) (by kernel_rfl) ?_
      refine bus_blk2 B b base Z N gA gS w1 _ hZ1b hbs hZB hl2 hgA hgS hBA hBS (by exact hB') ?_
      refine Lib.hid ?_
      rintro v9 v10 v11 v12 v13 v14 v15 v42 v43 v44 v45 v46 v47 v48 v49 v50 v51 v52 v53 v54 v55 v56 v57 v58 v59 v60 v61 v62 v63 v64 v65 v66 v67 v68 v69 v70 v71 v72 v73 v74 v75 v76 v77 v78 v79 v80 v81 v82 v83 v84 v85 v86 v87 v88 v89 v90 v91 v92 v93 v94 v95 v96 v97 v98 v99 v100 v101 v102 v103 v104 v105 v106 v107 v108 v109 v110 v111 v112 v113 v114 v115 v116 v117 v118 v119 v120 v121 v122 v123 v124 v125 v126 v127 v128 v129 v130 v131 v132 v133 v134 v135 v136 v137 v138 v139 v140 v141 v142 v143 v144 v145 v146 v147 v148 v149 v150 v151 v152 v153 v154 v155 v156 v157 v158 v159 v160 v161 v162 v163 v164 v165 v166 v167 v168 v169 v170 wc hcut
      clear hX hB'
      obtain ⟨w16, rfl⟩ : ∃ x : World, x = wc := ⟨_, rfl⟩
      have hT16 := hcut.1
      have HB16 := Lib.hid hcut
      clear hcut
      go_wp2_with fail
      refine (mk_N B b 12 _ hT16 (by omega) (by omega)).mono ?_
      rintro e w17 ⟨q, rfl, hq0, hq1, hT17, hk17⟩
      have HB17 := Lib.hid (HB16.out.call hZ1b hk17 hT17)
      clear HB16 hT16 hk17
      go_upto_if 173 with fail
      refine wp_code (c' := busIf 173) (by kernel_rfl) ?_
      refine bus_if173 B b base Z N gA gS w1 _ hZ1b hbs hZB hl2 hgA hgS hBA hBS q HB17 ?_
      refine Lib.hid ?_
      rintro v16 v173 v174 v175 v176 v177 v178 v179 v180 v181 v182 v183 v184 v185 v186 v187 v188 v189 v190 v191 v192 v193 v194 v195 v196 v197 v198 v199 v200 v201 wc hcut
      clear HB17 hT17 hq0 hq1
      obtain ⟨w20, rfl⟩ : ∃ x : World, x = wc := ⟨_, rfl⟩
      obtain ⟨hT20, ⟨v, T, hZ, hr, hs, hTN⟩, _, _, hk20⟩ := hcut
      obtain ⟨qa, qc, rfl⟩ := hr.slice
      have hbZ : base ≠ Z := by omega
      have hbb : base ≠ b := by omega
      have hR1 : Holds w1 base #[.slice none 0 0] 27 := (hH0.alloc (.cells #[.slice (some ⟨base + 1, 0, none⟩) 1 1] 27)).keeps k1 hbb
      have hR := hR1.keeps hk20 (by omega)
      have hX := hZ.cell 0
      have hY := hR.cell 0
      have hYf := hR.free 0
      have kz : Keeps (· = base) w20 (w20.setCell ⟨base, 0, none⟩ (.slice qa T.length qc)) := (Keeps.refl (· = base) w20).setCell (p := ⟨base, 0, none⟩) (Or.inr rfl) _
      have q0 := (hR.set 0 (.slice qa T.length qc)).cell 0
      have HF := Lib.hid (show TreeRow (w20.setCell ⟨base, 0, none⟩ (.slice qa T.length qc)) base (.slice qa T.length qc) T ∧ Shape T ∧ (T.length : Int) ≤ n + 1 ∧ Tape B (w20.setCell ⟨base, 0, none⟩ (.slice qa T.length qc)) b ∧ Keeps (· = b) w (w20.setCell ⟨base, 0, none⟩ (.slice qa T.length qc)) from
        ⟨hr.set hR (by decide) (by decide) 0 _, hs, by rw [hTN]; exact hl, hT20.keeps kz (fun i e => by subst e; exact ⟨hBw, hbb⟩),
          hK1.trans ((hk20.mono (fun i _ e => (show i = b ∨ i = Z ∨ i = base from by omega))).trans kz (fun i _ e => (show i = b ∨ i = Z ∨ i = base from by omega))) (fun i hi e => by omega)⟩)
      clear hT20 hr hs hTN hk20 hR hR1 hZ kz
      go_wp2_with fail
      exact bodyPost_ret (v := .agg #[.slice qa T.length qc]) (by simp [results, Try.results5, go_sem, q0]) rfl ⟨_, _, rfl, by rw [hRdef]; exact HF.out.1, HF.out.2⟩
end Go.Proofs.Ythkoaakicdhnpaa

namespace Go.Proofs.Ythkoaakicdhnpaa
open Go.RowKit

set_option maxRecDepth 100000 in
set_option maxHeartbeats 8000000 in
theorem address_Overlaps (R : Nat → Prop) (v : Value) (T : List NodeT) (w : World) (hT : NodesIn R w v T) :
    Calls Try.prog 6 #[.agg #[v]] w (OverPost T w) := by
  obtain ⟨a, cap, rfl, hc1, hc2⟩ := hT.shape
  have HT := Lib.hid hT; clear hT
  have hck := fun wx hx => address_Check R (.slice a T.length cap) T wx hx
  have hE := Lib.hid (show overlapsT T = if (aCheckT T).2 ≠ 0 then ([], (aCheckT T).2) else (hitsF T (foundT T), 0) from rfl)
  have hok := Lib.hid (@aCheck_ok T)
  have hb0 : Below w.heap.size w (w.alloc (.cells #[.slice a T.length cap] 27)) := (Below.refl w.heap.size w).alloc (Nat.le_refl _) _
  have hB0 := Holds.new w #[.slice a T.length cap] 27
  generalize aCheckT T = C at hck hE hok
  obtain ⟨ci, c⟩ := C
  simp only at hck
  have HCK := Lib.hid hck; clear hck
  by_cases hc : c = 0
  · subst hc
    have HC0 := Lib.hid (hok.out rfl)
    have hE2 := Lib.hid (show overlapsT T = (hitsF T (foundT T), 0) from by rw [hE.out, if_neg (by simp)])
    have hlen := (limits_len (check_limits HC0.out)).2
    obtain ⟨hfl, hfo⟩ := foundT_ok T
    have HFO := Lib.hid hfo; clear hfo
    have HHL := Lib.hid (hitsF_len T _ (foundT T) (Nat.le_refl _))
    have hfl2 : (foundT T).length ≤ 30720 := by omega
    clear hok hE hfl
    go_enter Try.func6, Try.ntmps6
    go_wp2_with fail
    refine (HCK.out _ (by exact HT.out.new hb0)).mono ?_
    rintro e w1 ⟨rfl, hb1⟩
    have hb2 := hb0.trans (hb1.mono (by simp))
    have hB1 := hB0.keeps (Keeps.of_fresh hb1 (fun _ => False)) (fun e => e)
    have bx1 := hB1.cell 0
    have blt1 := hB1.lt
    have hs2 := hb2.size
    go_wp2_with fail
    go_loopg [6, 33] (T.length) (fun f x y wr => ∃ (i : Nat) (l : List ((Int × Int) × Int × Int)), y = .int .i64 i ∧ i ≤ T.length ∧ T.length ≤ i + f ∧ wr.ownsRow w1.heap.size 66 4 x l.length (quadCells l) ∧
      Hid (foundT T = l ++ foundF T (T.length - i) i) ∧ Below w1.heap.size w1 wr)
    case atStart => exact ⟨0, [], rfl, by omega, by omega, World.ownsRow_nil _ _ _ _, by show _ = _; rfl, Below.refl _ _⟩
    case round =>
      obtain ⟨i, l, rfl, hi, hf, hown, hG, hb⟩ := hrel
      obtain ⟨oa, oc, rfl⟩ := owns_slice hown
      have hbs := hb.size
      have hB := hB1.keeps (Keeps.of_fresh hb (fun _ => False)) (fun e => e)
      have bx := hB.cell 0
      have blt := hB.lt
      have hbw := hb2.trans (hb.mono hs2)
      obtain ⟨wo, rfl⟩ : ∃ x : World, x = wr := ⟨_, rfl⟩
      obtain ⟨go, rfl⟩ : ∃ x : Nat, x = gk := ⟨_, rfl⟩
      clear bx1 blt1
      by_cases hlt : i < T.length
      · have hrg := fun wx hx => address_regions R (.slice a T.length cap) T i wx hx HC0.out hlt
        have hRK := Lib.hid (regionsT_ok T i)
        have hrl := regionsT_len T i
        have hst := Lib.hid (show foundF T (T.length - i) i = foundRow T i 0 (regionsT T i).1 ++ foundF T (T.length - (i + 1)) (i + 1) from by
          rw [show T.length - i = (T.length - (i + 1)) + 1 from by omega]; rfl)
        unfold RegionsPost at hrg
        generalize regionsT T i = C at hrg hRK hrl hst
        obtain ⟨rl, er⟩ := C
        simp only at hrg hrl
        have HRG := Lib.hid hrg; clear hrg
        go_wp2_with fail
        refine (HRG.out _ (by exact HT.out.new hbw)).mono ?_
        rintro e w2 ⟨rv, rfl, hownR, hb3⟩
        obtain ⟨ra, rc, rfl⟩ := owns_slice hownR
        have hown2 := row_new hown hb3
        have hb4 := hb.trans (hb3.mono hbs)
        clear bx blt hB hbw
        go_wp2_with fail
        go_loopg [6, 44] (rl.length) (fun f x y wq => ∃ (k : Nat) (l2 : List ((Int × Int) × Int × Int)), y = .int .i64 k ∧ k ≤ rl.length ∧ rl.length ≤ k + f ∧ wq.ownsRow w1.heap.size 66 4 x l2.length (quadCells l2) ∧
          Hid (foundT T = (l2 ++ foundRow T i k (rl.drop k)) ++ foundF T (T.length - (i + 1)) (i + 1)) ∧ wq.ownsRow wo.heap.size 43 2 (.slice ra rl.length rc) rl.length (pairCells rl) ∧ Below w1.heap.size w1 wq)
        case atStart =>
          refine ⟨0, l, rfl, by omega, by omega, hown2, ?_, hownR, hb4⟩
          show _ = _
          rw [hG.out, hst.out, List.drop_zero, List.append_assoc]
        case round =>
          obtain ⟨k, l2, rfl, hk, hfk, hown3, hG3, hR3, hb5⟩ := hrel
          obtain ⟨qa, qc, rfl⟩ := owns_slice hown3
          have hbs5 := hb5.size
          have hB5 := hB1.keeps (Keeps.of_fresh hb5 (fun _ => False)) (fun e => e)
          have bx := hB5.cell 0
          have blt := hB5.lt
          have hbw5 := hb2.trans (hb5.mono hs2)
          by_cases hkl : k < rl.length
          · obtain ⟨gR, cR, e1, hcR, hgR, _, d0, d1⟩ := pair_cells_at hR3 k hkl
            cases e1
            have hst2 := Lib.hid (show foundRow T i k (rl.drop k) = placeT T i k rl[k] ++ foundRow T i (k + 1) (rl.drop (k + 1)) from by rw [List.drop_eq_getElem_cons hkl]; rfl)
            have hro := hRK.out rl[k] (List.getElem_mem hkl)
            have hl2 : l2.length + (placeT T i k rl[k]).length ≤ 30720 := by
              have := congrArg List.length hG3.out
              rw [hst2.out] at this
              simp at this
              omega
            generalize rl[k] = p at d0 d1 hst2 hro hl2
            obtain ⟨pb, ps⟩ := p
            obtain ⟨r0, r1, r2, r3, r4⟩ := hro
            have htr := fun wx hx => address_translate R (.slice a T.length cap) T i pb ps wx hx HC0.out hlt r0 r1 r2 r3
            have hpl := Lib.hid (show placeT T i k (pb, ps) = if (translateT T i pb ps).2 = true then [(((i : Int), (k : Int)), (translateT T i pb ps).1)] else [] from rfl)
            unfold TransPost at htr
            rw [hpl.out] at hl2
            generalize translateT T i pb ps = X at htr hpl hl2
            obtain ⟨⟨x1, x2⟩, xb⟩ := X
            simp only at htr hl2
            have HTR := Lib.hid htr; clear htr
            clear r0 r1 r2 r3 r4
            have hba : Below w1.heap.size w1 (wr.alloc (.cells #[.int .i64 pb, .int .i64 ps] 43)) := hb5.alloc hbs5 _
            have hBa := hB5.alloc (.cells #[.int .i64 pb, .int .i64 ps] 43)
            cases xb with
            | true =>
              simp only [if_true, List.length_singleton] at hl2
              have hP := Lib.hid (show foundRow T i k (rl.drop k) = [(((i : Int), (k : Int)), (x1, x2))] ++ foundRow T i (k + 1) (rl.drop (k + 1)) from by rw [hst2.out, hpl.out, if_pos rfl])
              clear hst2 hpl
              obtain ⟨i0, hi0, hz0, hz1, hz2⟩ := info_parts infoFound
              go_wp2_with fail
              refine (HTR.out _ (by exact HT.out.new (hb2.trans (hba.mono hs2)))).mono ?_
              rintro e w3 ⟨rfl, hb6⟩
              have hb7 := hba.trans (hb6.mono (by simp; omega))
              have hown4 := row_new (hown3.alloc (.cells #[.int .i64 pb, .int .i64 ps] 43)) hb6
              have hR4 := row_new (hR3.alloc (.cells #[.int .i64 pb, .int .i64 ps] 43)) hb6
              have hs7 := hb7.size
              clear d0 d1
              go_wp2_with (at_builtin; refine wpList_append_own _ rfl (.tmp 57) (.tmp 63) 62 rfl w1.heap.size 66 i0 (.agg #[.int .i64 0, .int .i64 0, .int .i64 0, .int .i64 0]) 4 32 Try.underlying62 hi0 hz0 hz1 hz2 rfl (by decide) (.slice qa l2.length qc) l2.length (quadCells l2) rfl (by exact (hown4.alloc _).alloc _) ⟨w3.heap.size + 1, 0, none⟩ 1 1 [.int .i64 i, .int .i64 k, .int .i64 x1, .int .i64 x2] rfl rfl ?c1 ?c2 ?c3 ?c4 ?c5 ?_)
              case c1 => exact (row_built (w := w3.alloc (.cells #[.int .i64 x1, .int .i64 x2] 43)) (base := 0) (n := 1) (size := 4) (cs := #[.int .i64 i, .int .i64 k, .int .i64 x1, .int .i64 x2]) rfl (Nat.zero_le _) rfl (by omega)).cells (g := w3.heap.size + 1) (by simp [Value.ownBlock])
              case c2 => intro u hu; simp at hu; rcases hu with rfl | rfl | rfl | rfl <;> rfl
              case c3 => unfold maxLen; omega
              case c4 => omega
              case c5 => simp; omega
              intro v' w6 hown' hgrow _
              have hb8 := ((hb7.alloc hs7 (.cells #[.int .i64 x1, .int .i64 x2] 43)).alloc (by simp; omega) (.cells #[.int .i64 i, .int .i64 k, .int .i64 x1, .int .i64 x2] 66)).grown hgrow (by simp; omega) (fun q hq => (hown4.lt q hq).1)
              have hR5 := ((hR4.alloc (.cells #[.int .i64 x1, .int .i64 x2] 43)).alloc (.cells #[.int .i64 i, .int .i64 k, .int .i64 x1, .int .i64 x2] 66)).kept hgrow (rows_apart hR4 hown4 (by decide))
              clear hgrow
              go_wp2_with fail
              go_roundg (gk - 1)
              case measure => omega
              case rel =>
                refine ⟨k + 1, l2 ++ [(((i : Int), (k : Int)), (x1, x2))], by go_num, by omega, by omega, by rw [quadCells_snoc, List.length_append]; exact hown', ?_, hR5, hb8⟩
                show _ = _
                rw [hG3.out, hP.out]; simp
            | false =>
              have hP := Lib.hid (show foundRow T i k (rl.drop k) = foundRow T i (k + 1) (rl.drop (k + 1)) from by rw [hst2.out, hpl.out, if_neg (by simp)]; rfl)
              clear hst2 hpl
              go_wp2_with fail
              refine (HTR.out _ (by exact HT.out.new (hb2.trans (hba.mono hs2)))).mono ?_
              rintro e w3 ⟨rfl, hb6⟩
              have hb7 := hba.trans (hb6.mono (by simp; omega))
              have hown4 := row_new (hown3.alloc (.cells #[.int .i64 pb, .int .i64 ps] 43)) hb6
              have hR4 := row_new (hR3.alloc (.cells #[.int .i64 pb, .int .i64 ps] 43)) hb6
              clear d0 d1
              go_wp2_with fail
              go_roundg (gk - 1)
              case measure => omega
              case rel =>
                refine ⟨k + 1, l2, by go_num, by omega, by omega, hown4.alloc _, ?_, hR4.alloc _, hb7.alloc hb7.size _⟩
                show _ = _
                rw [hG3.out, hP.out]
          · have hP := Lib.hid (show foundT T = l2 ++ foundF T (T.length - (i + 1)) (i + 1) from by
              rw [hG3.out, List.drop_eq_nil_of_le (by omega)]; simp [foundRow])
            go_wp2_with fail
            go_roundg (go - 1)
            case measure => omega
            case rel => exact ⟨i + 1, l2, by go_num, by omega, by omega, hown3, hP, hb5⟩
      · have hF := Lib.hid (show foundT T = l from by rw [hG.out, show T.length - i = 0 from by omega]; simp [foundF])
        have hll : l.length ≤ 30720 := by rw [← hF.out]; exact hfl2
        have HEND := Lib.hid (show overlapsT T = (hitsF T l, 0) from by rw [hE2.out, hF.out])
        have hhl := HHL.out
        rw [hF.out] at hhl
        have HHL2 := Lib.hid (show (hitsF T l).length ≤ 943718400 from Nat.le_trans hhl (Nat.le_trans (Nat.mul_le_mul hll hll) (by decide)))
        have HFO2 : Hid (∀ x ∈ l, FoundOk T.length x) := by show _; rw [← hF.out]; exact HFO.out
        clear hhl HHL HFO hE2 hG
        have HOWN := Lib.hid hown
        clear bx blt hown
        go_wp2_with fail
        go_loopg [14, 69] (l.length) (fun f x y wr => ∃ (i : Nat) (out : List ((Int × Int) × Int × Int)), y = .int .i64 i ∧ i ≤ l.length ∧ l.length ≤ i + f ∧ wr.ownsRow wo.heap.size 49 4 x out.length (quadCells out) ∧
          Hid (hitsF T l = out ++ hitsF T (l.drop i)) ∧ Below wo.heap.size wo wr)
        case atStart => exact ⟨0, [], rfl, by omega, by omega, World.ownsRow_nil _ _ _ _, by show _ = _; rw [List.drop_zero]; rfl, Below.refl _ _⟩
        case round =>
          obtain ⟨j, out, rfl, hj, hfj, hown2, hG2, hc2'⟩ := hrel
          obtain ⟨wp, rfl⟩ : ∃ x : World, x = wr := ⟨_, rfl⟩
          obtain ⟨gp, rfl⟩ : ∃ x : Nat, x = gk := ⟨_, rfl⟩
          obtain ⟨oa2, oc2, rfl⟩ := owns_slice hown2
          have hbs2 := hc2'.size
          by_cases hjl : j < l.length
          · obtain ⟨gl, cl, e1, hcl, hgl, _, d0, d1, d2, d3⟩ := quad_cells_at HOWN.out j hjl
            cases e1
            have f0 := cell_new d0 hgl hc2'
            have f1 := cell_new d1 hgl hc2'
            have f2 := cell_new d2 hgl hc2'
            have f3 := cell_new d3 hgl hc2'
            have hX := HFO2.out l[j] (List.getElem_mem hjl)
            have hst : Hid (hitsF T (l.drop j) = hitRow T l[j] (l.drop (j + 1)) ++ hitsF T (l.drop (j + 1))) := by show _ = _; rw [List.drop_eq_getElem_cons hjl]; rfl
            generalize l[j] = X at f0 f1 f2 f3 hX hst
            obtain ⟨⟨xn, xk⟩, xb, xs⟩ := X
            obtain ⟨n0, n1, r0, r1, r2, r3, r4⟩ := hX
            simp only at n0 n1 r0 r1 r2 r3 r4 f0 f1 f2 f3
            clear d0 d1 d2 d3
            have hjI : (j : Int) + 1 ≤ (l.length : Int) := by omega
            have hbX : Below wo.heap.size wo (wp.alloc (.cells #[.int .i64 xn, .int .i64 xk, .int .i64 xb, .int .i64 xs] 66)) := hc2'.alloc hbs2 _
            have hX0 := Holds.new wp #[.int .i64 xn, .int .i64 xk, .int .i64 xb, .int .i64 xs] 66
            have hownX := hown2.alloc (.cells #[.int .i64 xn, .int .i64 xk, .int .i64 xb, .int .i64 xs] 66)
            by_cases hcj : j + 1 = oc
            · have hlj : l.length = j + 1 := by omega
              have hF3 : Hid (hitsF T l = out ++ hitsF T (l.drop (j + 1))) := by
                show _ = _
                rw [hG2.out, hst.out, List.drop_eq_nil_of_le (by omega : l.length ≤ j + 1)]; simp [hitRow]
              go_wp2_with fail
              go_loopg [14, 79] 0 (fun _ x y wr => x = .slice oa2 out.length oc2 ∧ y = .int .i64 0 ∧ wp.alloc (.cells #[.int .i64 xn, .int .i64 xk, .int .i64 xb, .int .i64 xs] 66) = wr)
              case atStart => exact ⟨rfl, rfl, rfl⟩
              case round =>
                obtain ⟨rfl, rfl, rfl⟩ := hrel
                go_wp2_with fail
                go_roundg (gp - 1)
                case measure => omega
                case rel => exact ⟨j + 1, out, by go_num, by omega, by omega, hownX, hF3, hbX⟩
            · have HST := hst
              go_wp2_with fail
              go_loopg [14, 79] (l.length) (fun f x y wr => ∃ (q : Nat) (o2 : List ((Int × Int) × Int × Int)), y = .int .i64 q ∧ q ≤ l.length - (j + 1) ∧ l.length ≤ q + f ∧ wr.ownsRow wo.heap.size 49 4 x o2.length (quadCells o2) ∧
                Hid (hitsF T l = (o2 ++ hitRow T ((xn, xk), (xb, xs)) (l.drop (j + 1 + q))) ++ hitsF T (l.drop (j + 1))) ∧ Holds wr wp.heap.size #[.int .i64 xn, .int .i64 xk, .int .i64 xb, .int .i64 xs] 66 ∧ Below wo.heap.size wo wr)
              case atStart =>
                refine ⟨0, out, rfl, by omega, by omega, hownX, ?_, hX0, hbX⟩
                show _ = _
                rw [hG2.out, HST.out, Nat.add_zero, List.append_assoc]
              case round =>
                obtain ⟨q, o2, rfl, hq, hfq, hown5, hG5, hX5, hb5⟩ := hrel
                obtain ⟨oa5, oc5, rfl⟩ := owns_slice hown5
                have hs5 := hb5.size
                have x0 := hX5.cell 0
                have x1 := hX5.cell 1
                have x2 := hX5.cell 2
                have x3 := hX5.cell 3
                have xlt := hX5.lt
                have hol : o2.length ≤ 943718400 := by
                  have := congrArg List.length hG5.out
                  simp at this
                  have h2 := HHL2.out
                  omega
                by_cases hql : j + 1 + q < l.length
                · have hqI : (q : Int) < ((l.length - (j + 1) : Nat) : Int) := by omega
                  have hqN : q < l.length - (j + 1) := by omega
                  obtain ⟨gl', cl', e1, hcl', hgl', _, d0, d1, d2, d3⟩ := quad_cells_at HOWN.out (j + 1 + q) hql
                  cases e1
                  have a1 : (j + 1 + q) * 4 = (j + 1) * 4 + q * 4 := by omega
                  rw [a1] at d0 d1 d2 d3
                  have y0 := cell_new d0 hgl' hb5
                  have y1 := cell_new d1 hgl' hb5
                  have y2 := cell_new d2 hgl' hb5
                  have y3 := cell_new d3 hgl' hb5
                  have hY := HFO2.out l[j + 1 + q] (List.getElem_mem hql)
                  have hst2 : Hid (hitRow T ((xn, xk), (xb, xs)) (l.drop (j + 1 + q)) = (if hitB T ((xn, xk), (xb, xs)) l[j + 1 + q] = true then [((xn, xk), l[j + 1 + q].1)] else []) ++ hitRow T ((xn, xk), (xb, xs)) (l.drop (j + 1 + (q + 1)))) := by
                    show _ = _
                    rw [List.drop_eq_getElem_cons hql]; rfl
                  generalize l[j + 1 + q] = Y at y0 y1 y2 y3 hY hst2
                  obtain ⟨⟨yn, yk⟩, yb, ys⟩ := Y
                  obtain ⟨m0, m1, t0, t1, t2, t3, t4⟩ := hY
                  simp only at m0 m1 t0 t1 t2 t3 t4 y0 y1 y2 y3
                  clear d0 d1 d2 d3 a1
                  have hbY : Below wo.heap.size wo (wr.alloc (.cells #[.int .i64 yn, .int .i64 yk, .int .i64 yb, .int .i64 ys] 66)) := hb5.alloc hs5 _
                  have hY0 := Holds.new wr #[.int .i64 yn, .int .i64 yk, .int .i64 yb, .int .i64 ys] 66
                  go_upto_region 24 with fail
                  have z0 := (hX5.alloc (.cells #[.int .i64 yn, .int .i64 yk, .int .i64 yb, .int .i64 ys] 66)).cell 2
                  have z1 := (hX5.alloc (.cells #[.int .i64 yn, .int .i64 yk, .int .i64 yb, .int .i64 ys] 66)).cell 3
                  have zlt := (hX5.alloc (.cells #[.int .i64 yn, .int .i64 yk, .int .i64 yb, .int .i64 ys] 66)).lt
                  have z2 := hY0.cell 2
                  have z3 := hY0.cell 3
                  have zlt2 := hY0.lt
                  have hown6 := hown5.alloc (.cells #[.int .i64 yn, .int .i64 yk, .int .i64 yb, .int .i64 ys] 66)
                  have hX6 := hX5.alloc (.cells #[.int .i64 yn, .int .i64 yk, .int .i64 yb, .int .i64 ys] 66)
                  have hY6 : Holds (wr.alloc (.cells #[.int .i64 yn, .int .i64 yk, .int .i64 yb, .int .i64 ys] 66)) wr.heap.size #[.int .i64 yn, .int .i64 yk, .int .i64 yb, .int .i64 ys] 66 := hY0
                  generalize hwY : wr.alloc (.cells #[.int .i64 yn, .int .i64 yk, .int .i64 yb, .int .i64 ys] 66) = wy at *
                  generalize wr.heap.size = By at *
                  clear hY0 hX5 hown5 hb5 hs5 x0 x1 x2 x3 xlt hwY
                  have hsY := hbY.size
                  go_cut [19, 20] (fun y z wx => ∃ g1 g2 : Nat, y = .pointer (some ⟨g1, 0, none⟩) ∧ z = .pointer (some ⟨g2, 0, none⟩) ∧ Holds wx g1 #[.int .i64 xb, .int .i64 xs] 43 ∧ Holds wx g2 #[.int .i64 yb, .int .i64 ys] 43 ∧ Below wy.heap.size wy wx)
                  case first =>
                    go_region
                    all_goals
                      go_wp2_with fail
                      go_meet
                      exact ⟨_, _, rfl, rfl, by first | exact ((Holds.new _ _ _).alloc _).drew | exact (Holds.newAt (by simp) _ _).drew, by first | exact ((Holds.new _ _ _).alloc _).drew | exact (Holds.newAt (by simp) _ _).drew, (((Below.refl _ _).alloc (Nat.le_refl _) _).alloc (by simp) _).drew⟩
                  case rest =>
                    obtain ⟨g1, g2, rfl, rfl, hg1, hg2, hbm⟩ := hcut
                    obtain ⟨wm, rfl⟩ : ∃ x : World, x = wc := ⟨_, rfl⟩
                    have u0 := hg1.cell 0
                    have u1 := hg1.cell 1
                    have v0 := hg2.cell 0
                    have v1 := hg2.cell 1
                    have ult := hg1.lt
                    have vlt := hg2.lt
                    have hbm2 := hbY.trans (hbm.mono hsY)
                    have hsm := hbm2.size
                    have hX7 := hX6.keeps (Keeps.of_fresh hbm (fun _ => False)) (fun e => e)
                    have hY7 := hY6.keeps (Keeps.of_fresh hbm (fun _ => False)) (fun e => e)
                    have hown7 := row_new hown6 hbm
                    have hB7 := hB1.keeps (Keeps.of_fresh (hb.trans (hbm2.mono hbs)) (fun _ => False)) (fun e => e)
                    have bx := hB7.cell 0
                    have blt := hB7.lt
                    have x0 := hX7.cell 0
                    have x1 := hX7.cell 1
                    have y0 := hY7.cell 0
                    have y1 := hY7.cell 1
                    have xlt := hX7.lt
                    have ylt := hY7.lt
                    clear z0 z1 z2 z3 zlt zlt2 hown6 hX6 hY6 hbY hsY hbm
                    have hhit : hitB T ((xn, xk), (xb, xs)) ((yn, yk), (yb, ys)) = (commonB (xb, xs) (yb, ys) && !aboveT T xn yn) := rfl
                    have hcom : commonB (xb, xs) (yb, ys) = decide (max xb yb < min (xb + xs) (yb + ys)) := rfl
                    by_cases hcm : max xb yb < min (xb + xs) (yb + ys)
                    · have hd : decide (max xb yb < min (xb + xs) (yb + ys)) = true := decide_eq_true hcm
                      rw [hcom, hd, Bool.true_and] at hhit
                      have hab := address_above R (.slice a T.length cap) T xn yn wm (by exact HT.out.new (hb2.trans ((hb.trans (hbm2.mono hbs)).mono hs2))) HC0.out n0 m0 m1
                      generalize aboveT T xn yn = ab at hab hhit
                      go_wp2_with fail
                      refine hab.mono ?_
                      rintro e w8 ⟨rfl, hb8⟩
                      clear hab
                      have hbm3 := hbm2.trans (hb8.mono hsm)
                      have hX8 := hX7.keeps (Keeps.of_fresh hb8 (fun _ => False)) (fun e => e)
                      have hY8 := hY7.keeps (Keeps.of_fresh hb8 (fun _ => False)) (fun e => e)
                      have hown8 := row_new hown7 hb8
                      have x0 := hX8.cell 0
                      have x1 := hX8.cell 1
                      have y0 := hY8.cell 0
                      have y1 := hY8.cell 1
                      have xlt := hX8.lt
                      have ylt := hY8.lt
                      have hs8 := hbm3.size
                      cases ab with
                      | true =>
                        have hF3 : Hid (hitsF T l = (o2 ++ hitRow T ((xn, xk), (xb, xs)) (l.drop (j + 1 + (q + 1)))) ++ hitsF T (l.drop (j + 1))) := by
                          show _ = _
                          rw [hG5.out, hst2.out, hhit, if_neg (by simp)]; rfl
                        go_wp2_with fail
                        go_roundg (gk - 1)
                        case measure => omega
                        case rel => exact ⟨q + 1, o2, by go_num, by omega, by omega, hown8, hF3, hX8, hbm3⟩
                      | false =>
                        have hF3 : Hid (hitsF T l = ((o2 ++ [((xn, xk), (yn, yk))]) ++ hitRow T ((xn, xk), (xb, xs)) (l.drop (j + 1 + (q + 1)))) ++ hitsF T (l.drop (j + 1))) := by
                          show _ = _
                          rw [hG5.out, hst2.out, hhit, if_pos (by simp)]; simp
                        obtain ⟨i0, hi0, hz0, hz1, hz2⟩ := info_parts infoOver
                        have hne := owns_ne_holds hown8 hX8 (by decide)
                        go_wp2_with (at_builtin; refine wpList_append_own _ rfl (.tmp 116) (.tmp 122) 29 rfl wo.heap.size 49 i0 (.agg #[.int .i64 0, .int .i64 0, .int .i64 0, .int .i64 0]) 4 32 Try.underlying29 hi0 hz0 hz1 hz2 rfl (by decide) (.slice oa5 o2.length oc5) o2.length (quadCells o2) rfl (by exact hown8.alloc _) ⟨w8.heap.size, 0, none⟩ 1 1 [.int .i64 xn, .int .i64 xk, .int .i64 yn, .int .i64 yk] rfl rfl ?g1 ?g2 ?g3 ?g4 ?g5 ?_)
                        case g1 => exact (row_built (w := w8) (base := 0) (n := 1) (size := 4) (cs := #[.int .i64 xn, .int .i64 xk, .int .i64 yn, .int .i64 yk]) rfl (Nat.zero_le _) rfl (by omega)).cells (g := w8.heap.size) rfl
                        case g2 => intro u hu; simp at hu; rcases hu with rfl | rfl | rfl | rfl <;> rfl
                        case g3 => unfold maxLen; omega
                        case g4 => omega
                        case g5 => simp; omega
                        intro v' w9 hown' hgrow _
                        have hb9 := (hbm3.alloc hs8 (.cells #[.int .i64 xn, .int .i64 xk, .int .i64 yn, .int .i64 yk] 49)).grown hgrow (by simp; omega) (fun q hq => (hown8.lt q hq).1)
                        have hX9 := (hX8.alloc (.cells #[.int .i64 xn, .int .i64 xk, .int .i64 yn, .int .i64 yk] 49)).grown hgrow hne
                        clear hgrow
                        go_wp2_with fail
                        go_roundg (gk - 1)
                        case measure => omega
                        case rel => exact ⟨q + 1, o2 ++ [((xn, xk), (yn, yk))], by go_num, by omega, by omega, by rw [quadCells_snoc, List.length_append]; exact hown', hF3, hX9, hb9⟩
                    · have hd : decide (max xb yb < min (xb + xs) (yb + ys)) = false := decide_eq_false hcm
                      rw [hcom, hd, Bool.false_and] at hhit
                      have hF3 : Hid (hitsF T l = (o2 ++ hitRow T ((xn, xk), (xb, xs)) (l.drop (j + 1 + (q + 1)))) ++ hitsF T (l.drop (j + 1))) := by
                        show _ = _
                        rw [hG5.out, hst2.out, hhit, if_neg (by simp)]; rfl
                      go_wp2_with fail
                      go_roundg (gk - 1)
                      case measure => omega
                      case rel => exact ⟨q + 1, o2, by go_num, by omega, by omega, hown7, hF3, hX7, hbm2⟩
                · have hF3 : Hid (hitsF T l = o2 ++ hitsF T (l.drop (j + 1))) := by
                    show _ = _
                    rw [hG5.out, List.drop_eq_nil_of_le (by omega : l.length ≤ j + 1 + q)]; simp [hitRow]
                  have hqI : ¬ (q : Int) < ((l.length - (j + 1) : Nat) : Int) := by omega
                  go_wp2_with fail
                  go_roundg (gp - 1)
                  case measure => omega
                  case rel => exact ⟨j + 1, o2, by go_num, by omega, by omega, hown5, hF3, hb5⟩
          · have hfin := Lib.hid (show overlapsT T = (out, 0) from by rw [HEND.out, hG2.out, List.drop_eq_nil_of_le (by omega)]; simp [hitsF])
            go_wp2_with fail
            go_ret2
            exact ⟨_, by rw [hfin.out]; rfl, by rw [hfin.out]; exact row_base hown2 (Nat.le_trans hs2 hbs), hb2.trans ((hb.mono hs2).trans (hc2'.mono (Nat.le_trans hs2 hbs)))⟩
  · have hcb : (c != 0) = true := by simpa using hc
    have hF := Lib.hid (show overlapsT T = ([], c) from by rw [hE.out, if_pos hc])
    clear hc hok hE
    go_enter Try.func6, Try.ntmps6
    go_wp2_with fail
    refine (HCK.out _ (by exact HT.out.new hb0)).mono ?_
    rintro e w1 ⟨rfl, hb1⟩
    go_wp2_with fail
    go_ret2
    exact ⟨.slice none 0 0, by rw [hF.out]; rfl, by rw [hF.out]; exact World.ownsRow_nil _ _ _ _, hb0.trans (hb1.mono (by simp))⟩
end Go.Proofs.Ythkoaakicdhnpaa

namespace Go.Proofs.Ythkoaakicdhnpaa
open Go.RowKit

noncomputable def lovBlk (n : Nat) : Code := (blkOf (Try.f3.body.getD .skip) n).getD .skip
theorem at_ok {T : List NodeT} {i : Nat} {x : Int × Int} (h : okT T i x = true) : atRegion T i x = ((translateT T i x.1 x.2).1, 0) := by
  unfold okT at h; unfold atRegion; rw [if_pos h]
theorem at_not {T : List NodeT} {i : Nat} {x : Int × Int} (h : ¬ okT T i x = true) : atRegion T i x = ((0, 0), 27) := by
  unfold okT at h; unfold atRegion; rw [if_neg h]
theorem cell_at (T : List NodeT) (i k : Nat) (x y : Int × Int) : cellN T i k x y = if (atRegion T i x).2 = 0 ∧ (atRegion T k y).2 = 0 ∧ aboveT T i k = false ∧ commonB (atRegion T i x).1 (atRegion T k y).1 = true then 1 else 0 := by
  unfold cellN
  by_cases hx : okT T i x = true
  · by_cases hy : okT T k y = true
    · rw [at_ok hx, at_ok hy]; simp [hx, hy]
    · rw [if_neg (fun h => hy h.2.1), at_not hy, if_neg (fun h => by simp at h)]
  · rw [if_neg (fun h => hx h.1), at_not hx, if_neg (fun h => by simp at h)]
theorem at_regOk {T : List NodeT} {i : Nat} {x : Int × Int} (hx : RegOk x) (h : (atRegion T i x).2 = 0) : RegOk (atRegion T i x).1 := by
  by_cases hk : okT T i x = true
  · rw [at_ok hk]; exact translateT_ok T i x.1 x.2 hx hk
  · rw [at_not hk] at h; cases h
theorem any_take (L : List ((Int × Int) × Int × Int)) (z : (Int × Int) × Int × Int) (j : Nat) (h : j < L.length) : (L.take (j + 1)).any (· == z) = ((L.take j).any (· == z) || (L[j] == z)) := by
  rw [List.take_succ_eq_append_getElem h, List.any_append]; simp

set_option maxRecDepth 100000 in
set_option maxHeartbeats 8000000 in
theorem ovl_cell {Q : Exit → Act → World → Prop} (base Z vc lc ob i k p q n cn : Nat) (va la : Option Addr) (T : List NodeT) (L : List ((Int × Int) × Int × Int)) (b : Bool) (x y : Int × Int) (w9 : World)
    (hN : NodesIn (fun g => base ≤ g) w9 (.slice va T.length vc) T) (hZ : Holds w9 Z #[.slice va T.length vc] 27) (hov : w9.ownsRow ob 49 4 (.slice la L.length lc) L.length (quadCells L))
    (hta : aTransT T i p = atRegion T i x) (htb : aTransT T k q = atRegion T k y) (hx : RegOk x) (hy : RegOk y) (hb : aboveT T i k = b) (hcn : cn = cellN T i k x y) (hmem : cn = 1 → (((i : Int), (p : Int)), ((k : Int), (q : Int))) ∈ L) (hn : n ≤ 943718400) (hL : L.length ≤ 943718400)
    {u0 u1 u2 u3 u6 u7 u8 u13 u14 u15 u16 u17 u19 u20 u21 u22 u23 u24 u25 u26 u27 u28 u29 u30 u31 u32 u33 u34 u35 u36 u37 u38 u39 u40 u41 u42 u43 u44 u45 u46 u47 u48 u49 u50 u51 u52 u53 u54 u55 u56 u57 u58 u59 u60 u61 u62 u63 u64 u65 u66 u67 u68 u69 u70 u71 u72 u73 u74 u75 u76 u77 u78 u79 u80 u81 u82 u83 u84 u85 u86 u87 u88 u89 u90 u91 u92 u93 u94 u95 u96 u97 u98 u99 u100 u101 u102 u103 u105 u106 u107 u108 u109 u110 u111 u112 u113 u114 u115 u116 u117 u118 u119 u120 u121 u122 u123 u124 u125 u126 u127 u128 u129 u130 u131 u132 u133 u134 u135 u136 u137 u138 u139 u140 u141 u142 u143 u144 u145 u146 u147 u148 u149 u150 u151 u152 u153 u154 u155 u156 u157 u158 u159 u160 u161 u162 u163 u164 u165 u166 u167 u168 u169 u170 u171 u172 u173 u174 u175 u176 u177 u178 u179 u180 u181 u182 u183 u184 u185 u186 u187 u188 u189 u190 u191 u192 u193 u194 u195 u196 u197 u198 u199 u200 u201 u202 u203 u204 u205 u206 : Value}
    (hQ : Hid (∀ (x2 x19 x20 x21 x22 x23 x24 x25 x27 x106 x107 x108 x109 x110 x111 x112 x113 x114 x115 x116 x117 x118 x119 x120 x121 x122 x123 x124 x125 x126 x127 x128 x129 x130 x131 x132 x133 x134 x135 x136 x137 x138 x139 x140 x141 x142 x143 x144 x145 x146 x147 x148 x149 x150 x151 x152 x153 x154 x155 x156 x157 x158 x159 x160 x161 x162 x163 x164 x165 x166 x167 x168 x169 x170 x171 x172 x173 x174 x175 x176 x177 x178 x179 x180 x181 x182 x183 x184 x185 x186 x187 x188 x189 x190 x191 x192 x193 x194 x195 x196 : Value) (wx : World), Below w9.heap.size w9 wx → Q .normal ⟨#[u0, u1, x2, u3, .pointer (some ⟨Z, 0, none⟩), .slice la L.length lc, u6, u7, u8, .int .i64 ((n + cn : Nat) : Int), .int .i64 i, .int .i64 k, .bool b, u13, u14, u15, u16, u17, .int .i64 p, x19, x20, x21, x22, x23, x24, x25, u26, x27, u28, u29, u30, u31, u32, u33, u34, u35, u36, u37, u38, u39, u40, u41, u42, u43, u44, u45, u46, u47, u48, u49, u50, u51, u52, u53, u54, u55, u56, u57, u58, u59, u60, u61, u62, u63, u64, u65, u66, u67, u68, u69, u70, u71, u72, u73, u74, u75, u76, u77, u78, u79, u80, u81, u82, u83, u84, u85, u86, u87, u88, u89, u90, u91, u92, u93, u94, u95, u96, u97, u98, u99, u100, u101, u102, u103, .int .i64 q, u105, x106, x107, x108, x109, x110, x111, x112, x113, x114, x115, x116, x117, x118, x119, x120, x121, x122, x123, x124, x125, x126, x127, x128, x129, x130, x131, x132, x133, x134, x135, x136, x137, x138, x139, x140, x141, x142, x143, x144, x145, x146, x147, x148, x149, x150, x151, x152, x153, x154, x155, x156, x157, x158, x159, x160, x161, x162, x163, x164, x165, x166, x167, x168, x169, x170, x171, x172, x173, x174, x175, x176, x177, x178, x179, x180, x181, x182, x183, x184, x185, x186, x187, x188, x189, x190, x191, x192, x193, x194, x195, x196, u197, u198, u199, u200, u201, u202, u203, u204, u205, u206], []⟩ wx)) :
    (lovBlk 9).wp Try.prog Q ⟨#[u0, u1, u2, u3, .pointer (some ⟨Z, 0, none⟩), .slice la L.length lc, u6, u7, u8, .int .i64 n, .int .i64 i, .int .i64 k, .bool b, u13, u14, u15, u16, u17, .int .i64 p, u19, u20, u21, u22, u23, u24, u25, u26, u27, u28, u29, u30, u31, u32, u33, u34, u35, u36, u37, u38, u39, u40, u41, u42, u43, u44, u45, u46, u47, u48, u49, u50, u51, u52, u53, u54, u55, u56, u57, u58, u59, u60, u61, u62, u63, u64, u65, u66, u67, u68, u69, u70, u71, u72, u73, u74, u75, u76, u77, u78, u79, u80, u81, u82, u83, u84, u85, u86, u87, u88, u89, u90, u91, u92, u93, u94, u95, u96, u97, u98, u99, u100, u101, u102, u103, .int .i64 q, u105, u106, u107, u108, u109, u110, u111, u112, u113, u114, u115, u116, u117, u118, u119, u120, u121, u122, u123, u124, u125, u126, u127, u128, u129, u130, u131, u132, u133, u134, u135, u136, u137, u138, u139, u140, u141, u142, u143, u144, u145, u146, u147, u148, u149, u150, u151, u152, u153, u154, u155, u156, u157, u158, u159, u160, u161, u162, u163, u164, u165, u166, u167, u168, u169, u170, u171, u172, u173, u174, u175, u176, u177, u178, u179, u180, u181, u182, u183, u184, u185, u186, u187, u188, u189, u190, u191, u192, u193, u194, u195, u196, u197, u198, u199, u200, u201, u202, u203, u204, u205, u206], []⟩ w9 := by
  simp only [lovBlk, blkOf, Try.f3, Option.getD_some, reduceIte, Nat.reduceEqDiff]
  have hu := at_regOk (T := T) (i := i) hx
  have hv := at_regOk (T := T) (i := k) hy
  have htr1 := fun wx hx => address_Translate (fun g => base ≤ g) (.slice va T.length vc) T i p wx hx
  have htr2 := fun wx hx => address_Translate (fun g => base ≤ g) (.slice va T.length vc) T k q wx hx
  unfold ATransPost at htr1 htr2
  rw [hta] at htr1
  rw [htb] at htr2
  rw [cell_at, hb] at hcn
  clear hta htb hb hx hy
  generalize atRegion T i x = U at *
  generalize atRegion T k y = V at *
  obtain ⟨⟨u1, u2⟩, fe⟩ := U
  obtain ⟨⟨v1, v2⟩, ge⟩ := V
  simp only at htr1 htr2 hcn hu hv
  have HTR1 := Lib.hid htr1
  have HTR2 := Lib.hid htr2
  have HMM := Lib.hid hmem
  have HU := Lib.hid hu
  have HV := Lib.hid hv
  have HCE := Lib.hid hcn
  clear htr1 htr2 hmem hu hv hcn
  have bx := hZ.cell 0
  have blt := hZ.lt
  go_wp2_with fail
  refine (HTR1.out _ (by exact hN)).mono ?_
  rintro e w10 ⟨rfl, hb10⟩
  have hb11 := hb10.alloc hb10.size (.cells #[.int .i64 u1, .int .i64 u2] 43)
  have hs11 := hb11.size
  have hZ11 := hZ.keeps (Keeps.of_fresh hb11 (fun _ => False)) (fun e => e)
  have hU := Holds.new w10 #[.int .i64 u1, .int .i64 u2] 43
  clear bx blt
  have bx := hZ11.cell 0
  have blt := hZ11.lt
  have hN11 := hN.new hb11
  have ulen : w10.heap.size < (w10.alloc (.cells #[.int .i64 u1, .int .i64 u2] 43)).heap.size := by simp
  go_wp2_with fail
  refine (HTR2.out _ (by exact hN11)).mono ?_
  rintro e w12 ⟨rfl, hb12⟩
  have hU12 := hU.keeps (Keeps.of_fresh hb12 (fun _ => False)) (fun e => e)
  have hb13 := hb11.trans (hb12.mono hs11)
  have hb14 := hb13.alloc hb13.size (.cells #[.int .i64 v1, .int .i64 v2] 43)
  have hU14 := hU12.alloc (.cells #[.int .i64 v1, .int .i64 v2] 43)
  have hV14 := Holds.new w12 #[.int .i64 v1, .int .i64 v2] 43
  clear bx blt hZ11 hN11 hU hU12 ulen hb11 hb13 hb10 hb12 hs11
  by_cases hfe : fe = 0
  · by_cases hge : ge = 0
    · subst hfe hge
      obtain ⟨r0, r1, r2, r3, r4⟩ := HU.out rfl
      obtain ⟨t0, t1, t2, t3, t4⟩ := HV.out rfl
      simp only at r0 r1 r2 r3 r4 t0 t1 t2 t3 t4
      have HCE2 := Lib.hid (show cn = if b = false ∧ commonB (u1, u2) (v1, v2) = true then 1 else 0 from by rw [HCE.out]; simp)
      have hcom := Lib.hid (common_iff (x := (u1, u2)) (y := (v1, v2)) ⟨r0, r1, r2, r3, r4⟩ ⟨t0, t1, t2, t3, t4⟩)
      clear HCE HU HV
      cases b with
      | true =>
        have hcn0 : cn = 0 := by rw [HCE2.out, if_neg]; rintro ⟨h, _⟩; cases h
        subst hcn0
        go_wp2_with fail
        exact hQ.out _ _ _ _ _ _ _ _ _ _ _ _ _ _ _ _ _ _ _ _ _ _ _ _ _ _ _ _ _ _ _ _ _ _ _ _ _ _ _ _ _ _ _ _ _ _ _ _ _ _ _ _ _ _ _ _ _ _ _ _ _ _ _ _ _ _ _ _ _ _ _ _ _ _ _ _ _ _ _ _ _ _ _ _ _ _ _ _ _ _ _ _ _ _ _ _ _ _ _ _ _ hb14
      | false =>
        have u0 := hU14.cell 0
        have u1' := hU14.cell 1
        have v0 := hV14.cell 0
        have v1' := hV14.cell 1
        have ult := hU14.lt
        have vlt := hV14.lt
        go_upto_region 30 with fail
        go_cut [24] from 130 to 171 (fun y wx => y = .bool (commonB (u1, u2) (v1, v2)) ∧ w12.alloc (.cells #[.int .i64 v1, .int .i64 v2] 43) = wx)
        case first =>
          have hyes : ((0 < u2 ∧ 0 < v2) ∧ ((v1 ≤ u1 ∧ u1 < v1 + v2) ∨ (u1 ≤ v1 ∧ v1 < u1 + u2))) → commonB (u1, u2) (v1, v2) = true := hcom.out.2
          have hno : ¬ ((0 < u2 ∧ 0 < v2) ∧ ((v1 ≤ u1 ∧ u1 < v1 + v2) ∨ (u1 ≤ v1 ∧ v1 < u1 + u2))) → commonB (u1, u2) (v1, v2) = false := fun h => by
            rw [Bool.eq_false_iff]; exact fun e => h (hcom.out.1 e)
          have HY := Lib.hid hyes
          have HN := Lib.hid hno
          clear hyes hno hcom HCE2
          by_cases h1 : 0 < u2
          · by_cases h2 : 0 < v2
            · by_cases h3 : v1 ≤ u1
              · by_cases h4 : u1 < v1 + v2
                · have e := Lib.hid (HY.out (by omega))
                  go_wp2_with fail
                  go_meet
                  exact ⟨by rw [e.out], rfl⟩
                · by_cases h5 : u1 ≤ v1
                  · exfalso; omega
                  · have e := Lib.hid (HN.out (by omega))
                    go_wp2_with fail
                    go_meet
                    exact ⟨by rw [e.out], rfl⟩
              · have h5 : u1 ≤ v1 := by omega
                by_cases h6 : v1 < u1 + u2
                · have e := Lib.hid (HY.out (by omega))
                  go_wp2_with fail
                  go_meet
                  exact ⟨by rw [e.out], rfl⟩
                · have e := Lib.hid (HN.out (by omega))
                  go_wp2_with fail
                  go_meet
                  exact ⟨by rw [e.out], rfl⟩
            · have e := Lib.hid (HN.out (by omega))
              go_wp2_with fail
              go_meet
              exact ⟨by rw [e.out], rfl⟩
          · have e := Lib.hid (HN.out (by omega))
            go_wp2_with fail
            go_meet
            exact ⟨by rw [e.out], rfl⟩
        case rest =>
          obtain ⟨rfl, rfl⟩ := hcut
          clear u0 u1' v0 v1' ult vlt hcom hU14 hV14
          cases hcb : commonB (u1, u2) (v1, v2) with
          | false =>
            have hcn0 : cn = 0 := by rw [HCE2.out, if_neg]; rintro ⟨_, h⟩; rw [hcb] at h; cases h
            subst hcn0
            go_wp2_with fail
            exact hQ.out _ _ _ _ _ _ _ _ _ _ _ _ _ _ _ _ _ _ _ _ _ _ _ _ _ _ _ _ _ _ _ _ _ _ _ _ _ _ _ _ _ _ _ _ _ _ _ _ _ _ _ _ _ _ _ _ _ _ _ _ _ _ _ _ _ _ _ _ _ _ _ _ _ _ _ _ _ _ _ _ _ _ _ _ _ _ _ _ _ _ _ _ _ _ _ _ _ _ _ _ _ hb14
          | true =>
            have hcn1 : cn = 1 := by rw [HCE2.out, if_pos ⟨by first | rfl | trivial, hcb⟩]
            subst hcn1
            have HIN := Lib.hid (HMM.out rfl)
            clear HMM HCE2
            have hov14 := Lib.hid (row_new hov hb14)
            obtain ⟨w13, hw13⟩ : ∃ x : World, x = w12.alloc (.cells #[.int .i64 v1, .int .i64 v2] 43) := ⟨_, rfl⟩
            rw [← hw13] at hb14 hov14 ⊢
            clear hw13
            go_wp2_with fail
            go_loopg [178, 25] (L.length) (fun f x y wr => ∃ (o : Nat) (b : Bool), x = .int .i64 o ∧ y = .bool b ∧ o ≤ L.length ∧ L.length ≤ o + f ∧ Hid (b = (L.take o).any (· == (((i : Int), (p : Int)), ((k : Int), (q : Int))))) ∧ Below w13.heap.size w13 wr)
            case atStart => exact ⟨0, false, rfl, rfl, by omega, by omega, by show _ = _; simp, Below.refl _ _⟩
            case round =>
              obtain ⟨o, fb, rfl, rfl, ho, hfo, hF, hbo⟩ := hrel
              by_cases hol : o < L.length
              · obtain ⟨gl, cl, e1, hcl, hgl, _, d0, d1, d2, d3⟩ := quad_cells_at hov14.out o hol
                cases e1
                have f0 := cell_new d0 hgl hbo
                have f1 := cell_new d1 hgl hbo
                have f2 := cell_new d2 hgl hbo
                have f3 := cell_new d3 hgl hbo
                have hstep := Lib.hid (any_take L (((i : Int), (p : Int)), ((k : Int), (q : Int))) o hol)
                clear d0 d1 d2 d3
                generalize L[o] = Y at *
                obtain ⟨⟨yn, yk⟩, yb, ys⟩ := Y
                simp only at f0 f1 f2 f3
                have hoI : (o : Int) < (L.length : Int) := by omega
                cases fb with
                | true =>
                  go_wp2_with fail
                  go_roundg (gk - 1)
                  case measure => omega
                  case rel => exact ⟨o + 1, true, by go_num, rfl, by omega, by omega, by show _ = _; rw [hstep.out, ← hF.out]; rfl, hbo.alloc hbo.size _⟩
                | false =>
                  have hTr : Hid ((yn = (i : Int) ∧ yk = (p : Int)) ∧ yb = (k : Int) ∧ ys = (q : Int) → (L.take (o + 1)).any (· == (((i : Int), (p : Int)), ((k : Int), (q : Int)))) = true) := by
                    show _ → _
                    rintro ⟨⟨rfl, rfl⟩, rfl, rfl⟩
                    rw [hstep.out, ← hF.out]; simp
                  have hFa : Hid (¬ ((yn = (i : Int) ∧ yk = (p : Int)) ∧ yb = (k : Int) ∧ ys = (q : Int)) → (L.take (o + 1)).any (· == (((i : Int), (p : Int)), ((k : Int), (q : Int)))) = false) := by
                    show _ → _
                    intro h
                    rw [hstep.out, ← hF.out, Bool.false_or, beq_eq_false_iff_ne]
                    intro e
                    simp only [Prod.mk.injEq] at e
                    exact h e
                  clear hstep
                  go_wp2_with fail
                  all_goals go_roundg (gk - 1)
                  all_goals first
                    | (case measure => omega)
                    | (case rel => exact ⟨o + 1, false, by go_num, rfl, by omega, by omega, (hFa.out (by rintro ⟨⟨e1, e2⟩, e3, e4⟩; omega)).symm, hbo.alloc hbo.size _⟩)
                    | (case rel => exact ⟨o + 1, true, by go_num, rfl, by omega, by omega, (hTr.out ⟨⟨by omega, by omega⟩, by omega, by omega⟩).symm, hbo.alloc hbo.size _⟩)
              · have hfb : fb = true := by
                  rw [hF.out, List.take_of_length_le (by omega), List.any_eq_true]
                  exact ⟨_, HIN.out, beq_self_eq_true _⟩
                subst hfb
                go_wp2_with fail
                exact hQ.out _ _ _ _ _ _ _ _ _ _ _ _ _ _ _ _ _ _ _ _ _ _ _ _ _ _ _ _ _ _ _ _ _ _ _ _ _ _ _ _ _ _ _ _ _ _ _ _ _ _ _ _ _ _ _ _ _ _ _ _ _ _ _ _ _ _ _ _ _ _ _ _ _ _ _ _ _ _ _ _ _ _ _ _ _ _ _ _ _ _ _ _ _ _ _ _ _ _ _ _ _ (hb14.trans (hbo.mono hb14.size))
    · have hcn0 : cn = 0 := by rw [HCE.out, if_neg (fun h => hge h.2.1)]
      subst hcn0 hfe
      have hgb : (ge != 0) = true := by simpa using hge
      clear hge
      go_wp2_with fail
      exact hQ.out _ _ _ _ _ _ _ _ _ _ _ _ _ _ _ _ _ _ _ _ _ _ _ _ _ _ _ _ _ _ _ _ _ _ _ _ _ _ _ _ _ _ _ _ _ _ _ _ _ _ _ _ _ _ _ _ _ _ _ _ _ _ _ _ _ _ _ _ _ _ _ _ _ _ _ _ _ _ _ _ _ _ _ _ _ _ _ _ _ _ _ _ _ _ _ _ _ _ _ _ _  hb14
  · have hcn0 : cn = 0 := by rw [HCE.out, if_neg (fun h => hfe h.1)]
    subst hcn0
    have hfb : (fe != 0) = true := by simpa using hfe
    clear hfe
    go_wp2_with fail
    exact hQ.out _ _ _ _ _ _ _ _ _ _ _ _ _ _ _ _ _ _ _ _ _ _ _ _ _ _ _ _ _ _ _ _ _ _ _ _ _ _ _ _ _ _ _ _ _ _ _ _ _ _ _ _ _ _ _ _ _ _ _ _ _ _ _ _ _ _ _ _ _ _ _ _ _ _ _ _ _ _ _ _ _ _ _ _ _ _ _ _ _ _ _ _ _ _ _ _ _ _ _ _ _  hb14
end Go.Proofs.Ythkoaakicdhnpaa

namespace Go.Proofs.Ythkoaakicdhnpaa
open Go.RowKit

set_option maxRecDepth 100000 in
set_option maxHeartbeats 2000000 in
theorem ref11_count (R : Nat → Prop) (pr : Int) (nm : ByteArray) (v : Value) (ps : List PropT) (x : ByteArray) (w : World) (hP : PropsIn R w v ps) (hsz : (ofT ps x).1.size ≤ 256) :
    Calls Try.prog 66 #[.agg #[.int .i64 pr, .string nm, v], .string x] w fun e w' => e = .returned (.int .i64 (countV (ofT ps x)).1) ∧ Below w.heap.size w w' := by
  obtain ⟨a, cap, rfl, hc1, hc2⟩ := hP.shape
  have HP := Lib.hid hP; clear hP
  have hb0 : Below w.heap.size w (w.alloc (.cells #[.int .i64 pr, .string nm, .slice a ps.length cap] 38)) := (Below.refl _ _).alloc (Nat.le_refl _) _
  have hof := fun wx hx => ref3_Of R pr nm (.slice a ps.length cap) ps x wx hx
  generalize ofT ps x = V at hof hsz ⊢
  obtain ⟨vs, vb⟩ := V
  simp only at hof hsz
  have HOF := Lib.hid hof; clear hof
  cases vb with
  | false =>
    have hC := Lib.hid (show (countV (vs, false)).1 = 1 from rfl)
    go_enter Try.func66, Try.ntmps66
    go_wp2_with fail
    refine (HOF.out _ (by exact HP.out.new hb0)).mono ?_
    rintro e w1 ⟨rfl, hb1⟩
    go_wp2_with fail
    go_ret
    exact ⟨by rw [hC.out]; rfl, hb0.trans (hb1.mono (by simp))⟩
  | true =>
    have hpc := fun wx => ref7_Cells vs wx (by omega)
    unfold CellsPost at hpc
    have hcd2 := Lib.hid (show countV (vs, true) = if cellsOkB vs = false ∨ (cellsT vs).length ≠ 1 ∨ (cellsT vs).headD 0 < 1 ∨ 2 < (cellsT vs).headD 0 then (0, false) else ((cellsT vs).headD 0, true) from rfl)
    have hbig : (cellsT vs).length ≤ 1000 := by have := cellsT_len vs; omega
    have hkb : cellsOkB vs = false → cellsT vs = [] := by intro h; unfold cellsT; rw [h]; rfl
    generalize countV (vs, true) = CV at hcd2 ⊢
    generalize cellsT vs = l at hpc hcd2 hbig hkb
    generalize cellsOkB vs = ok at hpc hcd2 hkb
    have HPC := Lib.hid hpc; clear hpc
    have HKB := Lib.hid hkb; clear hkb
    go_enter Try.func66, Try.ntmps66
    go_wp2_with fail
    refine (HOF.out _ (by exact HP.out.new hb0)).mono ?_
    rintro e w1 ⟨rfl, hb1⟩
    have hb2 := hb0.trans (hb1.mono (by simp))
    go_wp2_with fail
    refine (HPC.out _).mono ?_
    rintro e w2 ⟨lv, rfl, hown, hb3⟩
    have hb4 : Below w.heap.size w w2 := hb2.trans (hb3.mono hb2.size)
    obtain ⟨la, lc, rfl⟩ := owns_slice hown
    by_cases h1 : l.length = 1
    · have hok : ok = true := by
        cases ok with
        | true => rfl
        | false => rw [HKB.out rfl] at h1; cases h1
      subst hok
      obtain ⟨g, cp, e1, hcp, hg1, hg2, hcell⟩ := ints_at hown (by omega)
      cases e1
      have c0 := hcell 0 (by omega)
      clear hcell
      obtain ⟨q, rfl⟩ : ∃ q, l = [q] := List.length_eq_one_iff.1 h1
      simp only [List.getElem_cons_zero] at c0
      simp only [List.length_cons, List.length_nil] at hcp
      clear h1 hown hbig
      by_cases hlo : q < 1
      · have hC := Lib.hid (show CV = (0, false) from by rw [hcd2.out, if_pos (.inr (.inr (.inl (by simpa using hlo))))])
        go_wp2_with fail
        go_ret
        exact ⟨by rw [hC.out]; rfl, hb4⟩
      · have hlo' : 1 ≤ q := by omega
        by_cases hhi : 2 < q
        · have hC := Lib.hid (show CV = (0, false) from by rw [hcd2.out, if_pos (.inr (.inr (.inr (by simpa using hhi))))])
          go_wp2_with fail
          go_ret
          exact ⟨by rw [hC.out]; rfl, hb4⟩
        · have hhi' : q ≤ 2 := by omega
          have hC := Lib.hid (show CV = (q, true) from by
            rw [hcd2.out, if_neg (by rintro (h | h | h | h); cases h; exact h rfl; simp at h; omega; simp at h; omega)]; rfl)
          go_wp2_with fail
          go_ret
          exact ⟨by rw [hC.out]; rfl, hb4⟩
    · have hlb : ((l.length : Int) != 1) = true := by rw [bne_iff_ne]; omega
      have hC := Lib.hid (show CV = (0, false) from by rw [hcd2.out, if_pos (.inr (.inl h1))])
      clear h1
      go_wp2_with fail
      go_ret
      exact ⟨by rw [hC.out]; rfl, hb4⟩
theorem countV_zero (v : ByteArray × Bool) : (countV v).2 = false ↔ (countV v).1 = 0 := by
  unfold countV
  split
  · simp
  · split
    · simp
    · rename_i h
      simp only [Bool.true_eq_false, false_iff]
      intro e
      exact h (.inr (.inr (.inl (by omega))))
theorem of_size {T : List NodeT} (hc : checkT T = 0) {k : Nat} (hk : k < T.length) (x : ByteArray) : (ofT T[k].props x).1.size ≤ 256 := by
  rw [← value_of hc hk]; exact valueT_size T (k : Int) x
theorem pair_of {T : List NodeT} (hc : checkT T = 0) {k : Nat} (hk : k < T.length) : pairT T (k : Int) = if (countV (ofT T[k].props nmAC)).1 = 0 ∨ (countV (ofT T[k].props nmSC)).1 = 0 then (0, 0, 26) else ((countV (ofT T[k].props nmAC)).1, (countV (ofT T[k].props nmSC)).1, 0) := by
  unfold pairT countT
  rw [value_of hc hk, value_of hc hk]
  simp only [countV_zero]

set_option maxRecDepth 100000 in
set_option maxHeartbeats 2000000 in
theorem ref11_Cells (R : Nat → Prop) (v : Value) (T : List NodeT) (node : Int) (w : World) (hT : NodesIn R w v T) :
    Calls Try.prog 51 #[.agg #[v], .int .i64 node] w fun e w' => e = .returned (.tuple #[.int .i64 (aCellsT T node).1, .int .i64 (aCellsT T node).2.1, .int .i64 (aCellsT T node).2.2]) ∧ Below w.heap.size w w' := by
  obtain ⟨a, cap, rfl, hc1, hc2⟩ := hT.shape
  have HT := Lib.hid hT; clear hT
  have hck := fun wx hx => ref3_Check R (.slice a T.length cap) T wx hx
  have hE := Lib.hid (show aCellsT T node = if beginT T node ≠ 0 then (0, 0, beginT T node) else pairT T node from rfl)
  have hb0 : Below w.heap.size w (w.alloc (.cells #[.slice a T.length cap] 27)) := (Below.refl w.heap.size w).alloc (Nat.le_refl _) _
  have hB0 := Holds.new w #[.slice a T.length cap] 27
  by_cases hc : checkT T = 0
  · rw [hc] at hck
    have HCK := Lib.hid hck; clear hck
    have HC := Lib.hid hc
    have hlen := (limits_len (check_limits hc)).2
    by_cases hn : 0 ≤ node ∧ node < T.length
    · obtain ⟨k, rfl⟩ := Int.eq_ofNat_of_zero_le hn.1
      have hk : k < T.length := by omega
      have hn1 : ¬ (k : Int) < 0 := by omega
      have hn2 : ¬ (T.length : Int) ≤ (k : Int) := by omega
      have hE2 := Lib.hid (show aCellsT T (k : Int) = if (countV (ofT T[k].props nmAC)).1 = 0 ∨ (countV (ofT T[k].props nmSC)).1 = 0 then (0, 0, 26) else ((countV (ofT T[k].props nmAC)).1, (countV (ofT T[k].props nmSC)).1, 0) from by
        rw [hE.out, if_neg (by unfold beginT; rw [if_neg (by rw [hc]; simp), if_neg (by omega)]; simp), pair_of hc hk])
      have hs1 := of_size hc hk nmAC
      have hs2 := of_size hc hk nmSC
      clear hE hc hn
      go_enter Try.func51, Try.ntmps51
      go_wp2_with fail
      refine (HCK.out _ (by exact HT.out.new hb0)).mono ?_
      rintro e w1 ⟨rfl, hb1⟩
      have hb2 := hb0.trans (hb1.mono (by simp))
      have hB1 := hB0.keeps (Keeps.of_fresh hb1 (fun _ => False)) (fun e => e)
      have bx := hB1.cell 0
      have blt := hB1.lt
      have hN1 := HT.out.new hb2
      obtain ⟨g, o, pa, pc, rfl, hg, c0, c1, c2, hp, p1, p2, b0, b1, b2⟩ := hN1.at k hk
      have h1 := Lib.hid (fun wx (hx : Below w1.heap.size w1 wx) => ref11_count R T[k].parent T[k].name _ T[k].props nmAC wx (hp.new hx) hs1)
      have h2 := Lib.hid (fun wx (hx : Below w1.heap.size w1 wx) => ref11_count R T[k].parent T[k].name _ T[k].props nmSC wx (hp.new hx) hs2)
      generalize (countV (ofT T[k].props nmAC)).1 = r1 at *
      generalize (countV (ofT T[k].props nmSC)).1 = r2 at *
      generalize T[k].parent = par at *
      generalize T[k].name = nm at *
      have HB := Lib.hid hb2
      go_upto_region 6 with fail
      refine wp_region_any (by kernel_rfl) ?_
      refine wpAny_ops (ops' := rceOps) (by kernel_rfl) ?_
      refine rce_region w.heap.size g o T.length cap k par nm pa _ pc r1 r2 w1.heap.size w1 w1.drew _ rfl (Nat.le_refl _) hk blt hg bx c0 c1 c2 h1 h2 rfl rfl (Below.refl w1.heap.size w1).drew ?_
      intro c w5 hsb hb5 h8 h9
      obtain ⟨y8, y9, y24, y25, y26, y27, y28, y29, y30, y31, y32, y33, y34, y35, hcc⟩ := hsb.ex [8, 9, 24, 25, 26, 27, 28, 29, 30, 31, 32, 33, 34, 35] (by kernel_rfl)
      subst hcc
      simp only [List.setIfInBounds_toArray, List.set_cons_zero, List.set_cons_succ] at h8 h9 ⊢
      have e8 : y8 = .int .i64 r1 := h8
      have e9 : y9 = .int .i64 r2 := h9
      subst e8 e9
      have hb6 := Lib.hid (HB.out.trans (hb5.mono HB.out.size))
      clear h8 h9 hsb hb5 bx hp c0 c1 c2 hN1
      by_cases z1 : r1 = 0
      · have z1' : (r1 == 0) = true := by simp [z1]
        have hF := Lib.hid (show aCellsT T (k : Int) = (0, 0, 26) from by rw [hE2.out, if_pos (.inl z1)])
        clear z1 hE2
        go_wp2_with fail
        go_ret3
        exact ⟨by rw [hF.out]; rfl, hb6.out⟩
      · have z1' : (r1 == 0) = false := by simpa using z1
        by_cases z2 : r2 = 0
        · have z2' : (r2 == 0) = true := by simp [z2]
          have hF := Lib.hid (show aCellsT T (k : Int) = (0, 0, 26) from by rw [hE2.out, if_pos (.inr z2)])
          clear z1 z2 hE2
          go_wp2_with fail
          go_ret3
          exact ⟨by rw [hF.out]; rfl, hb6.out⟩
        · have z2' : (r2 == 0) = false := by simpa using z2
          have hF := Lib.hid (show aCellsT T (k : Int) = (r1, r2, 0) from by rw [hE2.out, if_neg (by rintro (h | h) <;> contradiction)])
          clear z1 z2 hE2
          go_wp2_with fail
          go_ret3
          exact ⟨by rw [hF.out]; rfl, hb6.out⟩
    · have hF := Lib.hid (show aCellsT T node = (0, 0, 4) from by
        have : beginT T node = 4 := by unfold beginT; rw [if_neg (by rw [hc]; simp), if_pos (by omega)]
        rw [hE.out, this]; rfl)
      clear hE hc
      go_enter Try.func51, Try.ntmps51
      go_wp2_with fail
      refine (HCK.out _ (by exact HT.out.new hb0)).mono ?_
      rintro e w1 ⟨rfl, hb1⟩
      have hb2 := hb0.trans (hb1.mono (by simp))
      have hB1 := hB0.keeps (Keeps.of_fresh hb1 (fun _ => False)) (fun e => e)
      have bx := hB1.cell 0
      have blt := hB1.lt
      by_cases hn0 : node < 0
      · go_wp2_with fail
        go_ret3
        exact ⟨by rw [hF.out]; rfl, hb2⟩
      · have hn1 : (T.length : Int) ≤ node := by omega
        go_wp2_with fail
        go_ret3
        exact ⟨by rw [hF.out]; rfl, hb2⟩
  · have hcb : (checkT T != 0) = true := by simpa using hc
    have hF := Lib.hid (show aCellsT T node = (0, 0, checkT T) from by
      have : beginT T node = checkT T := by unfold beginT; rw [if_pos hc]
      rw [hE.out, this, if_pos hc])
    clear hE hc
    generalize checkT T = c at hck hF hcb
    have HCK := Lib.hid hck; clear hck
    go_enter Try.func51, Try.ntmps51
    go_wp2_with fail
    refine (HCK.out _ (by exact HT.out.new hb0)).mono ?_
    rintro e w1 ⟨rfl, hb1⟩
    go_wp2_with fail
    go_ret3
    exact ⟨by rw [hF.out]; rfl, hb0.trans (hb1.mono (by simp))⟩
end Go.Proofs.Ythkoaakicdhnpaa

namespace Go.Proofs.Ythkoaakicdhnpaa
open Go.RowKit

/-- What is still to come: the widths left of this row, the cells left. -/
def remG (ws us l : List Int) (f : Nat) : Option (List Int) := (rowF us l).bind fun q => (rowsF ws f q.2).map fun rs => q.1 ++ rs.flatten
def remH (ws : List Int) (p : Nat) (l : List Int) (f : Nat) : Option (List Int) := if p = 0 then (rowsF ws f l).map List.flatten else remG ws (ws.drop p) l f
def remS (ws : List Int) (p : Nat) : Int := if p = 0 then 0 else sumT (ws.drop p)
theorem remG_nil (ws l : List Int) (f : Nat) : remG ws [] l f = (rowsF ws f l).map List.flatten := by
  unfold remG
  simp only [rowF, Option.bind_some, List.nil_append]
theorem remG_cons (ws : List Int) (u : Int) (t l : List Int) (f : Nat) : remG ws (u :: t) l f = if u = 2 then (if 1073741823 < l.headD 0 then none else (remG ws t (l.drop 2) f).map ((l.headD 0 * 4294967296 + l.getD 1 0) :: ·)) else (remG ws t (l.drop 1) f).map (l.headD 0 :: ·) := by
  unfold remG
  simp only [rowF]
  split
  · split
    · rfl
    · cases rowF t (l.drop 2) with
      | none => rfl
      | some q => simp only [Option.map_some, Option.bind_some, Option.map_map]; rfl
  · cases rowF t (l.drop 1) with
    | none => rfl
    | some q => simp only [Option.map_some, Option.bind_some, Option.map_map]; rfl
theorem rows_step (ws l : List Int) (f : Nat) (h : l ≠ []) : (rowsF ws (f + 1) l).map List.flatten = remG ws ws l f := by
  unfold remG
  simp only [rowsF]
  rw [if_neg h]
  cases rowF ws l with
  | none => rfl
  | some q => simp only [Option.bind_some, Option.map_map]; rfl
theorem rows_nil (ws : List Int) (f : Nat) : rowsF ws f [] = some [] := by cases f <;> rfl
/-- One number more. -/
theorem rem_step {ws : List Int} (hws : ∀ x ∈ ws, x = 1 ∨ x = 2) {p : Nat} (hp : p < ws.length) {l : List Int} {m f : Nat} (hl : l ≠ []) (hlen : (l.length : Int) = remS ws p + sumT ws * m) (hf : m ≤ f) :
    ∃ m' f', m' ≤ f' ∧ ((ws[p] = 1 → remH ws p l f = (remH ws ((p + 1) % ws.length) (l.drop 1) f').map (l.headD 0 :: ·) ∧ ((l.drop 1).length : Int) = remS ws ((p + 1) % ws.length) + sumT ws * (m' : Nat)) ∧
      (ws[p] = 2 → 2 ≤ l.length ∧ (1073741823 < l.headD 0 → remH ws p l f = none) ∧ (l.headD 0 ≤ 1073741823 → remH ws p l f = (remH ws ((p + 1) % ws.length) (l.drop 2) f').map ((l.headD 0 * 4294967296 + l.getD 1 0) :: ·) ∧ ((l.drop 2).length : Int) = remS ws ((p + 1) % ws.length) + sumT ws * (m' : Nat)))) := by
  have hl0 : 0 < l.length := List.length_pos_iff.2 hl
  -- in the middle of a row in any case
  obtain ⟨m', f', hm, hG, hS⟩ : ∃ m' f', m' ≤ f' ∧ remH ws p l f = remG ws (ws.drop p) l f' ∧ (l.length : Int) = sumT (ws.drop p) + sumT ws * (m' : Nat) := by
    by_cases h0 : p = 0
    · subst h0
      have hm1 : 1 ≤ m := by
        rcases Nat.eq_zero_or_pos m with e | e
        · exfalso; subst e; unfold remS at hlen; rw [if_pos rfl] at hlen; simp at hlen; exact hl hlen
        · exact e
      obtain ⟨f, rfl⟩ : ∃ x, f = x + 1 := ⟨f - 1, by omega⟩
      refine ⟨m - 1, f, by omega, ?_, ?_⟩
      · unfold remH; rw [if_pos rfl, List.drop_zero]; exact rows_step ws l f hl
      · rw [hlen, List.drop_zero]
        unfold remS; rw [if_pos rfl]
        rw [show ((m - 1 : Nat) : Int) = (m : Int) - 1 from by omega, Int.mul_sub]; omega
    · exact ⟨m, f, hf, by unfold remH; rw [if_neg h0], by rw [hlen]; unfold remS; rw [if_neg h0]⟩
  have hd : ws.drop p = ws[p] :: ws.drop (p + 1) := List.drop_eq_getElem_cons hp
  rw [hd, sumT_cons] at hS
  have htl : 0 ≤ sumT (ws.drop (p + 1)) := by
    have := sum_pos (ws := ws.drop (p + 1)) (fun x hx => hws x (List.mem_of_mem_drop hx)); omega
  have hall : 0 ≤ sumT ws * (m' : Int) := Int.mul_nonneg (by have := sum_pos hws; omega) (by omega)
  have hnext : ∀ r f, remG ws (ws.drop (p + 1)) r f = remH ws ((p + 1) % ws.length) r f := by
    intro r f
    by_cases e : p + 1 = ws.length
    · rw [e, Nat.mod_self, List.drop_of_length_le (Nat.le_refl _), remG_nil]; unfold remH; rw [if_pos rfl]
    · rw [Nat.mod_eq_of_lt (by omega)]; unfold remH; rw [if_neg (by omega)]
  have hnS : sumT (ws.drop (p + 1)) = remS ws ((p + 1) % ws.length) := by
    by_cases e : p + 1 = ws.length
    · rw [e, Nat.mod_self, List.drop_of_length_le (Nat.le_refl _)]; unfold remS; rw [if_pos rfl]; rfl
    · rw [Nat.mod_eq_of_lt (by omega)]; unfold remS; rw [if_neg (by omega)]
  refine ⟨m', f', hm, fun e => ?_, fun e => ?_⟩
  · rw [hG, hd, remG_cons, if_neg (by omega), hnext]
    refine ⟨rfl, ?_⟩
    rw [← hnS, List.length_drop, show ((l.length - 1 : Nat) : Int) = (l.length : Int) - 1 from by omega, hS, e]; omega
  · have h2 : 2 ≤ l.length := by
      rw [e] at hS; omega
    refine ⟨h2, fun hgt => ?_, fun hle => ?_⟩
    · rw [hG, hd, remG_cons, if_pos e, if_pos hgt]
    · rw [hG, hd, remG_cons, if_pos e, if_neg (by omega), hnext]
      refine ⟨rfl, ?_⟩
      rw [← hnS, List.length_drop, show ((l.length - 2 : Nat) : Int) = (l.length : Int) - 2 from by omega, hS, e]; omega
def NumsPost (v : ByteArray) (ws : List Int) (w : World) (e : Ending) (w' : World) : Prop :=
  ∃ rv, e = .returned (.tuple #[rv, .int .i64 (rowsT v ws).2]) ∧ w'.ownsRow w.heap.size 3 1 rv (rowsT v ws).1.flatten.length (intCells (rowsT v ws).1.flatten) ∧ Below w.heap.size w w'
theorem intCells_snoc (l : List Int) (x : Int) : intCells (l ++ [x]) = intCells l ++ [.int .i64 x] := by simp [intCells]

set_option maxRecDepth 100000 in
set_option maxHeartbeats 4000000 in
theorem ref11_numbers (v : ByteArray) (ws : List Int) (gw cw : Nat) (w : World) (hw : ∀ (i : Nat) (h : i < ws.length), w.cell? ⟨gw, i, none⟩ = some (.int .i64 ws[i])) (hws : ∀ x ∈ ws, x = 1 ∨ x = 2) (hn1 : 1 ≤ ws.length) (hn2 : ws.length ≤ 3)
    (hcw : ws.length ≤ cw) (hcw2 : cw ≤ 1000) (hv : v.size ≤ 1000) :
    Calls Try.prog 53 #[.string v, .slice (some ⟨gw, 0, none⟩) ws.length cw] w (NumsPost v ws w) := by
  have hsum := sum_pos hws
  have hgw : gw < w.heap.size := World.block_lt_of_cell? w _ (hw 0 hn1)
  have HW := Lib.hid hw; clear hw
  have HWS := Lib.hid hws; clear hws
  go_enter Try.func53, Try.ntmps53
  go_wp2_with fail
  go_loopg [6, 17] (ws.length) (fun f x y wr => ∃ (k : Nat) (s : Int), x = .int .i64 s ∧ y = .int .i64 k ∧ k ≤ ws.length ∧ ws.length ≤ k + f ∧ Hid (s = 4 * sumT (ws.take k)) ∧ 0 ≤ s ∧ s ≤ 8 * k ∧ w = wr)
  case atStart => exact ⟨0, 0, rfl, rfl, by omega, by omega, by simp [Hid, sumT], by omega, by omega, rfl⟩
  case round =>
    obtain ⟨k, s, rfl, rfl, hk, hf, hS, hs0, hs1, rfl⟩ := hrel
    by_cases hlt : k < ws.length
    · have hck := HW.out k hlt
      have hwk := HWS.out ws[k] (List.getElem_mem hlt)
      have hsn := Lib.hid (show sumT (ws.take (k + 1)) = sumT (ws.take k) + ws[k] from by rw [List.take_succ_eq_append_getElem hlt, sumT_snoc])
      generalize ws[k] = q at hck hwk hsn
      have hq0 : 1 ≤ q := by omega
      have hq1 : q ≤ 2 := by omega
      clear hwk
      go_wp2_with fail
      go_roundg (gk - 1)
      case measure => omega
      case rel => exact ⟨k + 1, s + 4 * q, rfl, by go_num, by omega, by omega, by show _ = _; rw [hsn.out]; have := hS.out; omega, by omega, by omega, rfl⟩
    · have hsE : s = 4 * sumT ws := by rw [hS.out, List.take_of_length_le (by omega)]
      have hs2 : 4 ≤ s := by omega
      have hs3 : s ≤ 24 := by omega
      have HSE := Lib.hid hsE
      clear hsE hS
      by_cases hmod : (v.size : Int) % s = 0
      · have hmb : (((v.size : Int) % s) != 0) = false := by rw [bne_eq_false_iff_eq]; exact hmod
        have hmod4 : (v.size : Int) % (4 * sumT ws) = 0 := by rw [← HSE.out]; exact hmod
        have hv4 : v.size % 4 = 0 := by
          have h1 : (4 * sumT ws) ∣ (v.size : Int) := Int.dvd_of_emod_eq_zero hmod4
          have h2 : (4 : Int) ∣ (v.size : Int) := Int.dvd_trans ⟨sumT ws, rfl⟩ h1
          omega
        have hlen := cellsT_eq v hv4
        have hdiv : ∃ m : Nat, ((cellsT v).length : Int) = sumT ws * m := by
          obtain ⟨m, hm⟩ := Int.dvd_of_emod_eq_zero hmod4
          have h3 : (v.size : Int) = 4 * ((cellsT v).length : Int) := by omega
          rw [h3, Int.mul_assoc] at hm
          have h4 : ((cellsT v).length : Int) = sumT ws * m := by omega
          refine ⟨m.toNat, ?_⟩
          rw [h4]
          by_cases hm0 : 0 ≤ m
          · rw [Int.toNat_of_nonneg hm0]
          · exfalso
            have : sumT ws * m < 0 := Int.mul_neg_of_pos_of_neg (by omega) (by omega)
            omega
        have hbd := cellsT_bd v
        have hR := Lib.hid (show rowsT v ws = rowsE (rowsF ws (cellsT v).length (cellsT v)) from by unfold rowsT; rw [if_neg (by rw [hmod4]; simp)])
        have hpc := fun wx => ref7_Cells v wx (by omega)
        unfold CellsPost at hpc
        generalize cellsT v = L at hlen hdiv hbd hR hpc
        generalize cellsOkB v = ok at hpc
        have HPC := Lib.hid hpc; clear hpc
        have hLl : L.length ≤ 1000 := by omega
        obtain ⟨m0, hm0⟩ := hdiv
        have hm0L : m0 ≤ L.length := by
          have : (1 : Int) * (m0 : Int) ≤ sumT ws * (m0 : Int) := Int.mul_le_mul_of_nonneg_right (by omega) (by omega)
          omega
        have HM0 := Lib.hid hm0
        have HBD := Lib.hid hbd
        have hwl0 : ((ws.length : Int) == 0) = false := by rw [beq_eq_false_iff_ne]; omega
        clear hm0 hbd hmod4 hmod hs0 hs1 hk hf hv4 hlen
        go_wp2_with fail
        refine (HPC.out _).mono ?_
        rintro e w2 ⟨lv, rfl, hown, hb2⟩
        obtain ⟨la, lc, rfl⟩ := owns_slice hown
        have hs2w := hb2.size
        have HOWN := Lib.hid hown; clear hown
        clear hmb HPC
        go_wp2_with fail
        go_loopg [12, 13, 9] (L.length) (fun f x y z wr => ∃ (k i m g : Nat) (out : List Int), x = .int .i64 k ∧ y = .int .i64 i ∧ i ≤ k ∧ k ≤ L.length ∧ L.length ≤ k + f ∧ wr.ownsRow w2.heap.size 3 1 z out.length (intCells out) ∧ Hid (out.length = i) ∧
          Hid ((rowsF ws L.length L).map List.flatten = (remH ws (i % ws.length) (L.drop k) g).map (out ++ ·)) ∧ Hid (((L.drop k).length : Int) = remS ws (i % ws.length) + sumT ws * m) ∧ m ≤ g ∧ Below w2.heap.size w2 wr)
        case atStart =>
          refine ⟨0, 0, m0, L.length, [], rfl, rfl, by omega, by omega, by omega, World.ownsRow_nil _ _ _ _, Lib.hid rfl, ?_, ?_, hm0L, Below.refl _ _⟩
          · show _ = _
            rw [Nat.zero_mod, List.drop_zero]; unfold remH; rw [if_pos rfl]; cases rowsF ws L.length L <;> simp
          · show _ = _
            rw [Nat.zero_mod, List.drop_zero]; unfold remS; rw [if_pos rfl]; have := HM0.out; omega
        case round =>
          obtain ⟨k, i, m, g, out, rfl, rfl, hik, hk1, hk2, hown, hoi, hG, hSS, hmg, hb⟩ := hrel
          obtain ⟨oa, oc, rfl⟩ := owns_slice hown
          have hbs := hb.size
          by_cases hlt : k < L.length
          · have hlt' : (k : Int) < (L.length : Int) := by omega
            obtain ⟨lg, lc', e1, _, hlg1, hlg2, hcell⟩ := ints_at HOWN.out (by omega)
            cases e1
            have hp : i % ws.length < ws.length := Nat.mod_lt _ (by omega)
            have hmodI : (i : Int) % (ws.length : Int) = ((i % ws.length : Nat) : Int) := (Int.natCast_emod i ws.length).symm
            have hne : L.drop k ≠ [] := fun e => by have := congrArg List.length e; simp at this; omega
            have hstep := rem_step HWS.out hp hne hSS.out hmg
            have hmod1 : (i % ws.length + 1) % ws.length = (i + 1) % ws.length := by rw [Nat.add_mod i 1, Nat.add_mod (i % ws.length) 1, Nat.mod_mod]
            rw [hmod1] at hstep
            obtain ⟨m', g', hmg', hst1, hst2⟩ := hstep
            have hd0 : (L.drop k).headD 0 = L[k] := by rw [List.drop_eq_getElem_cons hlt]; rfl
            have hd1 : (L.drop k).drop 1 = L.drop (k + 1) := by rw [List.drop_drop]
            have hd2 : (L.drop k).drop 2 = L.drop (k + 2) := by rw [List.drop_drop]
            rw [hd0, hd1] at hst1
            rw [hd0, hd2] at hst2
            have hc0 := (hb.cell (p := ⟨lg, k, none⟩) hlg2).trans (hcell k hlt)
            have hcw0 := ((hb2.cell (p := ⟨gw, i % ws.length, none⟩) hgw).trans (HW.out _ hp))
            have hcw1 := (hb.cell (p := ⟨gw, i % ws.length, none⟩) (by show gw < _; omega)).trans hcw0
            have hbk := HBD.out L[k] (List.getElem_mem hlt)
            have hwk := HWS.out ws[i % ws.length] (List.getElem_mem hp)
            have HST1 := Lib.hid hst1
            have HST2 := Lib.hid hst2
            have hpI : (i : Int) % (ws.length : Int) < (ws.length : Int) := by rw [hmodI]; omega
            have hp0I : 0 ≤ (i : Int) % (ws.length : Int) := by rw [hmodI]; omega
            have hmodN : ((i : Int) % (ws.length : Int)).toNat = i % ws.length := by rw [hmodI, Int.toNat_natCast]
            clear hmodI
            obtain ⟨i0, hi, hz0, hz1, hz2⟩ := info_parts infoInt
            have hol : out.length ≤ 1000 := by have := hoi.out; omega
            have HW2 := Lib.hid (fun (h2 : k + 1 < L.length) => (hb.cell (p := ⟨lg, k + 1, none⟩) hlg2).trans (hcell (k + 1) h2))
            clear hst1 hst2 hcell hcw0 hne hmod1 hd0 hd1 hd2
            generalize hwi : ws[i % ws.length] = wi at *
            generalize hLk : L[k] = x at *
            obtain ⟨hx0, hx1⟩ := hbk
            by_cases h2 : wi = 2
            · subst h2
              obtain ⟨hl2, hgt, hle⟩ := HST2.out rfl
              have hk2' : k + 1 < L.length := by have : (L.drop k).length = L.length - k := List.length_drop; omega
              by_cases hxg : 1073741823 < x
              · have hfin := Lib.hid (show rowsT v ws = ([], 2) from by
                  have h5 := hG.out
                  rw [hgt hxg] at h5
                  rw [hR.out]
                  cases h6 : rowsF ws L.length L with
                  | none => rfl
                  | some q => rw [h6] at h5; cases h5)
                clear hgt hle hl2 hwk
                go_wp2_with fail
                go_ret2
                exact ⟨.slice none 0 0, by rw [hfin.out]; rfl, by rw [hfin.out]; exact World.ownsRow_nil _ _ _ _, hb2.trans (hb.mono hs2w)⟩
              · have hxg' : x ≤ 1073741823 := by omega
                have hc2 := HW2.out hk2'
                have hby := HBD.out L[k + 1] (List.getElem_mem hk2')
                have hg1 : (L.drop k).getD 1 0 = L[k + 1] := by simp [List.getD, List.getElem?_drop, hk2']
                obtain ⟨hle1, hle2⟩ := hle hxg'
                rw [hg1] at hle1
                generalize hLk1 : L[k + 1] = y at *
                obtain ⟨hy0, hy1⟩ := hby
                obtain ⟨hor0, hor1⟩ := or_wide x y hx0 hxg' hy0 hy1
                have hG2 : Hid ((rowsF ws L.length L).map List.flatten = (remH ws ((i + 1) % ws.length) (L.drop (k + 2)) g').map ((out ++ [x * 4294967296 + y]) ++ ·)) := by
                  show _ = _
                  rw [hG.out, hle1, Option.map_map]
                  congr 1
                  funext z
                  simp
                have HLE2 := Lib.hid hle2
                have hk1I : (k : Int) + 1 < (L.length : Int) := by omega
                have hrow : x * 4294967296 + y ≤ 4611686018427387903 := by omega
                clear hgt hle hl2 hwk hle1 hle2 hg1 hG
                go_wp2_with (at_builtin; refine wpList_append_own _ rfl (.tmp 67) (.tmp 69) 22 rfl w2.heap.size 3 i0 (.int .i64 0) 1 8 Try.underlying22 hi hz0 hz1 hz2 rfl (by decide) (.slice oa out.length oc) out.length (intCells out) rfl (by exact hown.alloc _) ⟨wr.heap.size, 0, none⟩ 1 1 [.int .i64 (x * 4294967296 + y)] rfl rfl ?c1 ?c2 ?c3 ?c4 ?c5 ?_)
                case c2 => rfl
                case c3 => unfold maxLen; omega
                case c4 => omega
                case c5 => omega
                intro v' w6 hown' hgrow _
                have hb6 := (hb.alloc hbs (.cells #[.int .i64 (x * 4294967296 + y)] 3)).grown hgrow (by simp; omega) (fun q hq => (hown.lt q hq).1)
                clear hgrow
                go_wp2_with fail
                go_roundg (gk - 2)
                case measure => omega
                case rel => exact ⟨k + 2, i + 1, m', g', out ++ [x * 4294967296 + y], by go_num, by go_num, by omega, by omega, by omega, by rw [intCells_snoc, List.length_append]; exact hown', Lib.hid (by rw [List.length_append, hoi.out]; rfl), hG2, HLE2, hmg', hb6⟩
            · have h1 : wi = 1 := by omega
              subst h1
              obtain ⟨hst, hsl⟩ := HST1.out rfl
              have hG2 : Hid ((rowsF ws L.length L).map List.flatten = (remH ws ((i + 1) % ws.length) (L.drop (k + 1)) g').map ((out ++ [x]) ++ ·)) := by
                show _ = _
                rw [hG.out, hst, Option.map_map]
                congr 1
                funext z
                simp
              have HSL := Lib.hid hsl
              clear hst hsl hG h2 hwk
              go_wp2_with (at_builtin; refine wpList_append_own _ rfl (.tmp 67) (.tmp 69) 22 rfl w2.heap.size 3 i0 (.int .i64 0) 1 8 Try.underlying22 hi hz0 hz1 hz2 rfl (by decide) (.slice oa out.length oc) out.length (intCells out) rfl (by exact hown.alloc _) ⟨wr.heap.size, 0, none⟩ 1 1 [.int .i64 x] rfl rfl ?d1 ?d2 ?d3 ?d4 ?d5 ?_)
              case d2 => rfl
              case d3 => unfold maxLen; omega
              case d4 => omega
              case d5 => omega
              intro v' w6 hown' hgrow _
              have hb6 := (hb.alloc hbs (.cells #[.int .i64 x] 3)).grown hgrow (by simp; omega) (fun q hq => (hown.lt q hq).1)
              clear hgrow
              go_wp2_with fail
              go_roundg (gk - 1)
              case measure => omega
              case rel => exact ⟨k + 1, i + 1, m', g', out ++ [x], by go_num, by go_num, by omega, by omega, by omega, by rw [intCells_snoc, List.length_append]; exact hown', Lib.hid (by rw [List.length_append, hoi.out]; rfl), hG2, HSL, hmg', hb6⟩
          · have hlt' : ¬ (k : Int) < (L.length : Int) := by omega
            have hfin := Lib.hid (show (rowsT v ws).2 = 0 ∧ (rowsT v ws).1.flatten = out from by
              have h5 := hG.out
              have h7 := hSS.out
              have hdn : L.drop k = [] := List.drop_eq_nil_of_le (by omega)
              have hi0 : i % ws.length = 0 := by
                by_cases e : i % ws.length = 0
                · exact e
                · exfalso
                  rw [hdn] at h7
                  unfold remS at h7
                  rw [if_neg e] at h7
                  have hp := Nat.mod_lt i (show 0 < ws.length by omega)
                  have hq := sum_pos (ws := ws.drop (i % ws.length)) (fun x hx => HWS.out x (List.mem_of_mem_drop hx))
                  rw [List.length_drop] at hq
                  have : 0 ≤ sumT ws * (m : Int) := Int.mul_nonneg (by omega) (by omega)
                  simp at h7
                  omega
              rw [hi0, hdn] at h5
              unfold remH at h5
              rw [if_pos rfl, rows_nil] at h5
              rw [hR.out]
              cases h6 : rowsF ws L.length L with
              | none => rw [h6] at h5; cases h5
              | some q =>
                rw [h6] at h5
                simp at h5
                exact ⟨rfl, by rw [← h5]; rfl⟩)
            go_wp2_with fail
            go_ret2
            exact ⟨_, by rw [hfin.out.1]; rfl, by rw [hfin.out.2]; exact ownsRow_base' hown hs2w, hb2.trans (hb.mono hs2w)⟩
      · have hmb : (((v.size : Int) % s) != 0) = true := by rw [bne_iff_ne]; exact hmod
        have hfin := Lib.hid (show rowsT v ws = ([], 26) from by unfold rowsT; rw [if_pos (by rw [← HSE.out]; exact hmod)])
        clear hmod
        go_wp2_with fail
        go_ret2
        exact ⟨.slice none 0 0, by rw [hfin.out]; rfl, by rw [hfin.out]; exact World.ownsRow_nil _ _ _ _, Below.refl _ _⟩
end Go.Proofs.Ythkoaakicdhnpaa

namespace Go.Proofs.Ythkoaakicdhnpaa
open Go.RowKit

theorem flat_get {m : Nat} : ∀ (rs : List (List Int)), (∀ r ∈ rs, r.length = m) → ∀ (j i : Nat) (hj : j < rs.length), i < m → rs.flatten[j * m + i]? = rs[j][i]? := by
  intro rs
  induction rs with
  | nil => intro _ j i hj; simp at hj
  | cons r rs ih =>
    intro h j i hj hi
    have hr := h r (by simp)
    rw [List.flatten_cons]
    cases j with
    | zero => rw [List.getElem?_append_left (by omega)]; simp
    | succ j =>
      rw [List.getElem?_append_right (by rw [Nat.succ_mul]; omega)]
      have := ih (fun q hq => h q (by simp [hq])) j i (by simpa using hj) hi
      rw [show (j + 1) * m + i - r.length = j * m + i from by rw [Nat.succ_mul]; omega]
      simpa using this
theorem flat_len {m : Nat} : ∀ (rs : List (List Int)), (∀ r ∈ rs, r.length = m) → rs.flatten.length = rs.length * m := by
  intro rs
  induction rs with
  | nil => intro _; simp
  | cons r rs ih =>
    intro h
    rw [List.flatten_cons, List.length_append, ih (fun q hq => h q (by simp [hq])), h r (by simp), List.length_cons, Nat.succ_mul]; omega

set_option maxRecDepth 100000 in
set_option maxHeartbeats 4000000 in
theorem ref11_regions (R : Nat → Prop) (v : Value) (T : List NodeT) (k : Nat) (w : World) (hT : NodesIn R w v T) (hc : checkT T = 0) (hk : k < T.length) :
    Calls Try.prog 27 #[.agg #[v], .int .i64 k] w (RegionsPost T k w) := by
  obtain ⟨a, cap, rfl, hc1, hc2⟩ := hT.shape
  have HT := Lib.hid hT; clear hT
  by_cases hk0 : k = 0
  · have hkb : ((k : Int) == 0) = true := by simp [hk0]
    have hE := Lib.hid (show regionsT T k = ([], 0) from by unfold regionsT; rw [if_pos hk0])
    clear hk0 hc
    go_enter Try.func27, Try.ntmps27
    go_wp2_with fail
    go_ret2
    exact ⟨.slice none 0 0, by rw [hE.out]; rfl, by rw [hE.out]; exact World.ownsRow_nil _ _ _ _, (Below.refl _ _).alloc (Nat.le_refl _) _⟩
  · have hkb : ((k : Int) == 0) = false := by simp; omega
    obtain ⟨g, o, pa, pc, rfl, hg, c0, c1, c2, hp, p1, p2, b0, b1, b2⟩ := HT.out.at k hk
    have hnm := check_named hc
    obtain ⟨hp0, hp1⟩ := (named_par hnm k hk).2 (by omega)
    have hlen := (limits_len (check_limits hc)).2
    have hE := Lib.hid (show regionsT T k = (if (pairT T T[k].parent).2.2 ≠ 0 then ([], (pairT T T[k].parent).2.2) else
      if (rowsT (ofT T[k].props nmReg).1 [(pairT T T[k].parent).1, (pairT T T[k].parent).2.1]).2 ≠ 0 then ([], (rowsT (ofT T[k].props nmReg).1 [(pairT T T[k].parent).1, (pairT T T[k].parent).2.1]).2)
      else regE (regF (rowsT (ofT T[k].props nmReg).1 [(pairT T T[k].parent).1, (pairT T T[k].parent).2.1]).1)) from by unfold regionsT; rw [if_neg hk0, parOf_at hk, value_of hc hk])
    have hcl := fun wx hx => ref11_Cells R (.slice (some ⟨g, o, none⟩) T.length cap) T T[k].parent wx hx
    have hbg : beginT T T[k].parent = 0 := by
      unfold beginT; rw [if_neg (by rw [hc]; simp), if_neg (by omega)]
    have hcE : aCellsT T T[k].parent = pairT T T[k].parent := by unfold aCellsT; rw [if_neg (by rw [hbg]; simp)]
    rw [hcE] at hcl
    have hpb := pairT_bd T T[k].parent
    have hvs := of_size hc hk nmReg
    have hof := fun (wx : World) hx => ref3_Of R (T[k]'hk).parent (T[k]'hk).name (.slice pa (T[k]'hk).props.length pc) (T[k]'hk).props nmReg wx hx
    generalize ofT T[k].props nmReg = V at hE hof hvs
    obtain ⟨vs, vb⟩ := V
    simp only at hof hvs
    generalize pairT T T[k].parent = C at hE hcl hpb hcE
    obtain ⟨ac, sc, ec⟩ := C
    simp only at hcl hpb
    have HCL := Lib.hid hcl; clear hcl
    unfold nmReg at hof
    have HOF := Lib.hid hof; clear hof
    generalize T[k].parent = pp at c0 b1 b2 hp0 hp1 HCL HOF hE hbg hcE
    generalize T[k].name = nm at c1 HOF
    have HP := Lib.hid hp; clear hp hc hk0 hnm hbg hcE
    have hkI : (k : Int) < (T.length : Int) := by omega
    go_enter Try.func27, Try.ntmps27
    have hb0 : Below w.heap.size w (w.alloc (.cells #[.slice (some ⟨g, o, none⟩) T.length cap] 27)) := (Below.refl w.heap.size w).alloc (Nat.le_refl _) _
    have hB0 := Holds.new w #[.slice (some ⟨g, o, none⟩) T.length cap] 27
    go_wp2_with fail
    refine (HCL.out _ (by exact HT.out.new hb0)).mono ?_
    rintro e w1 ⟨rfl, hb1⟩
    have hb2 := hb0.trans (hb1.mono (by simp))
    have hB1 := hB0.keeps (Keeps.of_fresh hb1 (fun _ => False)) (fun e => e)
    have bx := hB1.cell 0
    have blt := hB1.lt
    have hs2 := hb2.size
    by_cases hec : ec = 0
    · subst hec
      obtain ⟨ha, hs⟩ := hpb rfl
      have hrw := fun (wx : World) hw => ref11_numbers vs [ac, sc] wx.heap.size 2 (wx.alloc (.cells #[.int .i64 ac, .int .i64 sc] 3)) hw (by simp; omega) (by simp) (by simp) (by simp) (by omega) (by omega)
      have hspec := rowsT_spec vs [ac, sc]
      have hE2 := hE.out
      rw [if_neg (by simp)] at hE2
      clear hE
      unfold NumsPost at hrw
      generalize rowsT vs [ac, sc] = RW at hE2 hrw hspec
      obtain ⟨rows, er⟩ := RW
      simp only at hE2 hrw hspec
      have HE2 := Lib.hid hE2; clear hE2
      have HRW := Lib.hid hrw; clear hrw
      obtain ⟨hsp1, hsp2⟩ := hspec
      have hsp3 : ∀ r ∈ rows, r.length = 2 := fun r hr => (hsp2 r hr).1
      have hfl := flat_len rows hsp3
      have hfg := Lib.hid (flat_get rows hsp3)
      have HSP2 := Lib.hid hsp2; clear hsp2 hsp3
      generalize rows.flatten = FL at HRW hfl hfg
      have HFL := Lib.hid hfl; clear hfl
      have d0 := cell_new c0 hg hb2
      have d1 := cell_new c1 hg hb2
      have d2 := cell_new c2 hg hb2
      clear ha hs hpb c0 c1 c2
      go_wp2_with fail
      refine (HOF.out _ (by exact HP.out.new hb2)).mono ?_
      rintro e w3 ⟨rfl, hb3⟩
      have hb4 : Below w.heap.size w w3 := hb2.trans (hb3.mono hs2)
      have hs4 := hb4.size
      clear d0 d1 d2
      go_wp2_with fail
      refine (HRW.out w3 ?_).mono ?_
      · intro i hi
        have h2 : i = 0 ∨ i = 1 := by simp at hi; omega
        rcases h2 with rfl | rfl
        · exact (Holds.new w3 #[.int .i64 ac, .int .i64 sc] 3).cell 0
        · exact (Holds.new w3 #[.int .i64 ac, .int .i64 sc] 3).cell 1
      rintro e w4 ⟨rv, rfl, hRA, hb5⟩
      have hb6 : Below w.heap.size w w4 := (hb4.alloc hs4 _).trans (hb5.mono (by simp; omega))
      have hs6 := hb6.size
      by_cases her : er = 0
      · subst her
        have hF := Lib.hid (show regionsT T k = regE (regF rows) from by rw [HE2.out, if_neg (by simp)])
        have hrl : rows.length ≤ 1000 := by omega
        obtain ⟨ra, rc, rfl⟩ := owns_slice hRA
        have HRA := Lib.hid hRA; clear hRA
        clear bx blt
        go_wp2_with fail
        go_loopg [13, 14] (rows.length) (fun f x y wr => ∃ (j i : Nat) (l : List (Int × Int)), y = .int .i64 i ∧ i = j * 2 ∧ j ≤ rows.length ∧ rows.length ≤ j + f ∧ Hid (l.length = j) ∧ wr.ownsRow w4.heap.size 43 2 x l.length (pairCells l) ∧
          Hid (regF rows = (regF (rows.drop j)).map (l ++ ·)) ∧ Below w4.heap.size w4 wr)
        case atStart => exact ⟨0, 0, [], rfl, rfl, by omega, by omega, rfl, World.ownsRow_nil _ _ _ _, by show _ = _; rw [List.drop_zero]; cases regF rows <;> rfl, Below.refl _ _⟩
        case round =>
          obtain ⟨j, i, l, rfl, hij, hj, hf, hlj, hown, hG, hbw⟩ := hrel
          have hbws := hbw.size
          have hfl := HFL.out
          by_cases hjl : j < rows.length
          · have hiI : (i : Int) < (FL.length : Int) := by omega
            have hi1 : i + 1 < FL.length := by omega
            obtain ⟨hr2, hrb⟩ := HSP2.out rows[j] (List.getElem_mem hjl)
            simp only [List.length_cons, List.length_nil] at hr2
            obtain ⟨gr, cr, e1, q1, q2, q3, hcell⟩ := ints_at HRA.out (by omega)
            cases e1
            have d1 := hcell i (by omega)
            have d2 := hcell (i + 1) hi1
            have k1 : FL[i] = rows[j][0] := by
              have := hfg.out j 0 hjl (by omega)
              rw [Nat.add_zero, ← hij, List.getElem?_eq_getElem (by omega), List.getElem?_eq_getElem (by omega)] at this
              exact Option.some.inj this
            have k2 : FL[i + 1] = rows[j][1] := by
              have := hfg.out j 1 hjl (by omega)
              rw [← hij, List.getElem?_eq_getElem (by omega), List.getElem?_eq_getElem (by omega)] at this
              exact Option.some.inj this
            rw [k1] at d1
            rw [k2] at d2
            have hb0' := hrb rows[j][0] (List.getElem_mem _)
            have hb1' := hrb rows[j][1] (List.getElem_mem _)
            have hst : regF (rows.drop j) = if fitsB rows[j][0] rows[j][1] = true then (regF (rows.drop (j + 1))).map ((rows[j][0], rows[j][1]) :: ·) else none := by
              rw [List.drop_eq_getElem_cons hjl]
              simp only [regF]
              rw [show rows[j].getD 0 0 = rows[j][0] from by simp [List.getD, hr2], show rows[j].getD 1 0 = rows[j][1] from by simp [List.getD, hr2]]
            clear hrb hcell k1 k2
            generalize rows[j][0] = y0 at d1 hb0' hst
            generalize rows[j][1] = y1 at d2 hb1' hst
            obtain ⟨y00, y01⟩ := hb0'
            obtain ⟨y10, y11⟩ := hb1'
            have HST := Lib.hid hst; clear hst
            have f1 := cell_new d1 q3 hbw
            have f2 := cell_new d2 q3 hbw
            have hij2 : (i : Int) + 1 < (FL.length : Int) := by omega
            have HIJ := Lib.hid hij
            have hil : i ≤ 2000 := by omega
            have hin : i < FL.length := by omega
            have hfl3 : FL.length ≤ 2000 := by omega
            clear hij hfl
            have hlb : l.length ≤ 1000 := by have := hlj.out; omega
            by_cases hfb : 4611686018427387903 - y0 < y1
            · have hE3 := Lib.hid (show regionsT T k = ([], 2) from by rw [hF.out, hG.out, HST.out, if_neg (by unfold fitsB; simp; omega)]; rfl)
              obtain ⟨oa, oc, rfl⟩ := owns_slice hown
              go_wp2_with fail
              go_region
              go_wp2_with fail
              go_ret2
              exact ⟨.slice none 0 0, by rw [hE3.out]; rfl, by rw [hE3.out]; exact World.ownsRow_nil _ _ _ _, (hb6.trans (hbw.mono hs6)).drew⟩
            · have hfb' : ¬ (y1 > 4611686018427387903 - y0) := hfb
              have hG2 : Hid (regF rows = (regF (rows.drop (j + 1))).map ((l ++ [(y0, y1)]) ++ ·)) := by
                show _ = _
                rw [hG.out, HST.out, if_pos (by unfold fitsB; simp; omega), Option.map_map]
                congr 1
                funext z
                simp
              clear hfb
              obtain ⟨oa, oc, rfl⟩ := owns_slice hown
              go_wp2_with fail
              go_region
              have hownq : wr.drew.ownsRow w4.heap.size 43 2 (.slice oa l.length oc) l.length (pairCells l) := hown
              have hbq := hbw.drew
              go_upto_region 17 with fail
              refine wp_region_any (by kernel_rfl) ?_
              refine wpAny_ops (ops' := rrgOps) (by kernel_rfl) ?_
              refine rrg_region gr FL.length rc i y0 y1 w4.heap.size l.length (pairCells l) (.slice oa l.length oc) w4.heap.size w4 _ _ rfl (Nat.le_refl _) (Nat.le_refl _) (Nat.le_refl _) (by omega) hi1 (by omega) q3 d1 d2 rfl rfl rfl hbq.drew hownq ?_
              intro c w5 v0 hsb hb7 h13 hown5
              obtain ⟨y13, y70, y71, y72, y73, y74, y75, y76, y77, y78, y79, y80, y81, y82, hcc⟩ := hsb.ex [13, 70, 71, 72, 73, 74, 75, 76, 77, 78, 79, 80, 81, 82] (by kernel_rfl)
              subst hcc
              simp only [List.setIfInBounds_toArray, List.set_cons_zero, List.set_cons_succ] at h13 ⊢
              have e13 : y13 = v0 := h13
              subst e13
              clear hsb h13 hown hownq hbq
              go_wp2_with fail
              go_roundg (gk - 1)
              case measure => omega
              case rel => exact ⟨j + 1, i + 2, l ++ [(y0, y1)], by go_num, by have := HIJ.out; omega, by omega, by omega, by show _ = _; have := hlj.out; simp; omega, by rw [pairCells_snoc]; simpa using hown5, hG2, hb7⟩
          · have hfin := Lib.hid (show regionsT T k = (l, 0) from by rw [hF.out, hG.out, List.drop_eq_nil_of_le (by omega)]; simp [regF, regE])
            have hiI : ¬ (i : Int) < (FL.length : Int) := by omega
            clear hij hfl
            obtain ⟨oa, oc, rfl⟩ := owns_slice hown
            go_wp2_with fail
            go_ret2
            exact ⟨_, by rw [hfin.out]; rfl, by rw [hfin.out]; exact ownsRow_base' hown hs6, hb6.trans (hbw.mono hs6)⟩
      · have herb : (er != 0) = true := by simpa using her
        have hF := Lib.hid (show regionsT T k = ([], er) from by rw [HE2.out, if_pos her])
        clear her
        go_wp2_with fail
        go_ret2
        exact ⟨.slice none 0 0, by rw [hF.out]; rfl, by rw [hF.out]; exact World.ownsRow_nil _ _ _ _, hb6⟩
    · have hecb : (ec != 0) = true := by simpa using hec
      have hF := Lib.hid (show regionsT T k = ([], ec) from by rw [hE.out, if_pos hec])
      clear hec
      go_wp2_with fail
      go_ret2
      exact ⟨.slice none 0 0, by rw [hF.out]; rfl, by rw [hF.out]; exact World.ownsRow_nil _ _ _ _, hb2⟩

set_option maxRecDepth 100000 in
set_option maxHeartbeats 4000000 in
theorem ref11_Regions (R : Nat → Prop) (v : Value) (T : List NodeT) (node : Int) (w : World) (hT : NodesIn R w v T) :
    Calls Try.prog 9 #[.agg #[v], .int .i64 node] w (ARegionsPost T node w) := by
  obtain ⟨a, cap, rfl, hc1, hc2⟩ := hT.shape
  have HT := Lib.hid hT; clear hT
  have hck := fun wx hx => ref3_Check R (.slice a T.length cap) T wx hx
  have hE := Lib.hid (show aRegionsT T node = if beginT T node ≠ 0 then ([], beginT T node) else regionsT T node.toNat from rfl)
  have hbe := Lib.hid (show beginT T node = if checkT T ≠ 0 then checkT T else if node < 0 ∨ T.length ≤ node then 4 else 0 from rfl)
  have hb0 : Below w.heap.size w (w.alloc (.cells #[.slice a T.length cap] 27)) := (Below.refl w.heap.size w).alloc (Nat.le_refl _) _
  have hB0 := Holds.new w #[.slice a T.length cap] 27
  by_cases hc : checkT T = 0
  · rw [hc] at hck
    have HCK := Lib.hid hck; clear hck
    by_cases hn0 : node < 0
    · have hF := Lib.hid (show aRegionsT T node = ([], 4) from by rw [hE.out, show beginT T node = 4 from by rw [hbe.out, if_neg (by rw [hc]; simp), if_pos (.inl hn0)], if_pos (by simp)])
      clear hE hbe hc
      go_enter Try.func9, Try.ntmps9
      go_wp2_with fail
      refine (HCK.out _ (by exact HT.out.new hb0)).mono ?_
      rintro e w1 ⟨rfl, hb1⟩
      go_wp2_with fail
      go_ret2
      exact ⟨.slice none 0 0, by rw [hF.out]; rfl, by rw [hF.out]; exact World.ownsRow_nil _ _ _ _, hb0.trans (hb1.mono (by simp))⟩
    · by_cases hn1 : (T.length : Int) ≤ node
      · have hF := Lib.hid (show aRegionsT T node = ([], 4) from by rw [hE.out, show beginT T node = 4 from by rw [hbe.out, if_neg (by rw [hc]; simp), if_pos (.inr hn1)], if_pos (by simp)])
        clear hE hbe hc
        go_enter Try.func9, Try.ntmps9
        go_wp2_with fail
        refine (HCK.out _ (by exact HT.out.new hb0)).mono ?_
        rintro e w1 ⟨rfl, hb1⟩
        have hB1 := hB0.keeps (Keeps.of_fresh hb1 (fun _ => False)) (fun e => e)
        have bx := hB1.cell 0
        have blt := hB1.lt
        go_wp2_with fail
        go_ret2
        exact ⟨.slice none 0 0, by rw [hF.out]; rfl, by rw [hF.out]; exact World.ownsRow_nil _ _ _ _, hb0.trans (hb1.mono (by simp))⟩
      · obtain ⟨k, rfl⟩ := Int.eq_ofNat_of_zero_le (Int.not_lt.1 hn0)
        have hk : k < T.length := by omega
        have hrg := fun wx hx => ref11_regions R (.slice a T.length cap) T k wx hx hc hk
        unfold RegionsPost at hrg
        have hE2 := Lib.hid (show aRegionsT T k = regionsT T k from by rw [hE.out, show beginT T k = 0 from by rw [hbe.out, if_neg (by rw [hc]; simp), if_neg (by omega)], if_neg (by simp), Int.toNat_natCast])
        clear hE hbe hc
        generalize regionsT T k = C at hrg hE2
        obtain ⟨l, er⟩ := C
        simp only at hrg
        have HRG := Lib.hid hrg; clear hrg
        go_enter Try.func9, Try.ntmps9
        go_wp2_with fail
        refine (HCK.out _ (by exact HT.out.new hb0)).mono ?_
        rintro e w1 ⟨rfl, hb1⟩
        have hb2 := hb0.trans (hb1.mono (by simp))
        have hB1 := hB0.keeps (Keeps.of_fresh hb1 (fun _ => False)) (fun e => e)
        have bx := hB1.cell 0
        have blt := hB1.lt
        go_wp2_with fail
        refine (HRG.out _ (by exact HT.out.new hb2)).mono ?_
        rintro e w2 ⟨rv, rfl, hown, hb3⟩
        obtain ⟨ra, rc, rfl⟩ := owns_slice hown
        have hs2 := hb2.size
        go_wp2_with fail
        go_ret2
        exact ⟨_, by rw [hE2.out]; rfl, by rw [hE2.out]; exact ownsRow_base' hown hs2, hb2.trans (hb3.mono hs2)⟩
  · have hcb : (checkT T != 0) = true := by simpa using hc
    have hF := Lib.hid (show aRegionsT T node = ([], checkT T) from by rw [hE.out, show beginT T node = checkT T from by rw [hbe.out, if_pos hc], if_pos hc])
    clear hE hbe hc
    generalize checkT T = c at hck hF hcb
    have HCK := Lib.hid hck; clear hck
    go_enter Try.func9, Try.ntmps9
    go_wp2_with fail
    refine (HCK.out _ (by exact HT.out.new hb0)).mono ?_
    rintro e w1 ⟨rfl, hb1⟩
    go_wp2_with fail
    go_ret2
    exact ⟨.slice none 0 0, by rw [hF.out]; rfl, by rw [hF.out]; exact World.ownsRow_nil _ _ _ _, hb0.trans (hb1.mono (by simp))⟩
end Go.Proofs.Ythkoaakicdhnpaa

namespace Go.Proofs.Ythkoaakicdhnpaa
open Go.RowKit

set_option maxRecDepth 100000 in
set_option maxHeartbeats 8000000 in
theorem overlaps_walk (a : Option Addr) (len cap : Nat) (w : World) (hi : IntsIn w a len) (hlc : len ≤ cap) (hcap : cap ≤ maxLen) (hnil : a = none → len = 0 ∧ cap = 0) :
    Calls Try.prog 3 #[.slice a len cap] w fun e w' => e = .returned (.bool true) ∧ Below w.heap.size w w' := by
  go_enter Try.func3, Try.ntmps3
  go_wp2_with fail
  refine (mk_New a len cap _ hi hlc hcap hnil).mono ?_
  rintro e w1 ⟨tb, rfl, hT1, hb1⟩
  clear hi hnil
  have hB := hT1.1
  have htl := hT1.lt
  go_wp2_with fail
  refine (grow_Buses w.heap.size tb 7 _ (by exact hT1) (by omega) (by omega)).mono ?_
  rintro e w2 ⟨v, T, rfl, hR, hs, hl, hT2, hk2⟩
  obtain ⟨va, vc, rfl⟩ := hR.slice
  have hb2 : Below w.heap.size w w2 := hb1.trans (hk2.below (by omega) (fun i hi e => by omega))
  have hs2 := hb2.size
  have hR2 := hR.new ((Below.refl _ _).alloc (Nat.le_refl _) (.cells #[.slice va T.length vc] 27))
  have hN := hR2.in
  have hb3 := hb2.alloc hs2 (.cells #[.slice va T.length vc] 27)
  have hZ := Holds.new w2 #[.slice va T.length vc] 27
  have hT8 : T.length ≤ 8 := by omega
  clear hR hR2 hb2 hb1 hk2 hT1 hT2 hl hs
  generalize w1.heap.size = base at *
  go_wp2_with fail
  refine (address_Overlaps (fun g => base ≤ g) _ T _ (by exact hN)).mono ?_
  rintro e w3 ⟨ov, rfl, hov, hb4⟩
  have hN3 := hN.new hb4
  have hZ3 := hZ.keeps (Keeps.of_fresh hb4 (fun _ => False)) (fun e => e)
  have hb5 := hb3.trans (hb4.mono (by simp; omega))
  have hO : overlapsT T = if (aCheckT T).2 ≠ 0 then ([], (aCheckT T).2) else (hitsF T (foundT T), 0) := rfl
  generalize (w2.alloc (.cells #[.slice va T.length vc] 27)).heap.size = ob at hov
  clear hN hZ hb3 hb4 hs2
  generalize w2.heap.size = Z at *
  have hbs5 := hb5.size
  by_cases hc : (aCheckT T).2 = 0
  · have HC := Lib.hid hc
    rw [hc, if_neg (by simp)] at hO
    rw [hO] at hov ⊢
    simp only at hov ⊢
    have hck := aCheck_ok hc
    have hnm := check_named hck
    have HPAR := Lib.hid (show ∀ m : Nat, 0 < m → m < T.length → 0 ≤ parOf T m ∧ parOf T m < m from fun m h1 h2 => by rw [parOf_at h2]; have := (named_par hnm m h2).2 h1; omega)
    have HTOT := Lib.hid (show rowI T T.length 0 = (hitsF T (foundT T)).length from rowI_hits T T.length 0)
    have hLb : (hitsF T (foundT T)).length ≤ 943718400 := by
      have h1 := hitsF_len T _ (foundT T) (Nat.le_refl _)
      have h2 := (foundT_ok T).1
      have h3 : T.length * 256 ≤ 2048 := by omega
      exact Nat.le_trans h1 (Nat.le_trans (Nat.mul_le_mul (Nat.le_trans h2 h3) (Nat.le_trans h2 h3)) (by decide))
    have HMEM := Lib.hid (fun (i k p q : Nat) (hik : i < k) (hk : k < T.length) (hp : p < (regionsT T i).1.length) (hq : q < (regionsT T k).1.length) h => cell_mem hik hk hp hq h)
    clear hc hO hck hnm
    generalize hitsF T (foundT T) = L at *
    obtain ⟨la, lc, rfl⟩ := owns_slice hov
    have bx := hZ3.cell 0
    have blt := hZ3.lt
    go_wp2_with fail
    go_loopg [53, 9] (T.length) (fun f x y wr => ∃ (i n : Nat), x = .int .i64 i ∧ y = .int .i64 n ∧ i ≤ T.length ∧ T.length ≤ i + f ∧ Hid (n + rowI T (T.length - i) i = L.length) ∧ Below w3.heap.size w3 wr)
    case atStart => exact ⟨0, 0, rfl, rfl, by omega, by omega, by show _ = _; rw [Nat.zero_add, Nat.sub_zero, HTOT.out], Below.refl _ _⟩
    case round =>
      obtain ⟨i, n, rfl, rfl, hi, hf, hG, hb⟩ := hrel
      obtain ⟨w4, rfl⟩ : ∃ x : World, x = wr := ⟨_, rfl⟩
      obtain ⟨g4, rfl⟩ : ∃ x : Nat, x = gk := ⟨_, rfl⟩
      clear bx blt
      have hZ4 := hZ3.keeps (Keeps.of_fresh hb (fun _ => False)) (fun e => e)
      have bx := hZ4.cell 0
      have blt := hZ4.lt
      by_cases hlt : i < T.length
      · have hlt' : (i : Int) < T.length := by omega
        have hG2 : Hid (n + (rowK T i (regionsT T i).1 (T.length - (i + 1)) (i + 1) + rowI T (T.length - (i + 1)) (i + 1)) = L.length) := by
          show _ = _
          rw [← hG.out, show T.length - i = (T.length - (i + 1)) + 1 from by omega]; rfl
        clear hG
        obtain ⟨Ri, hRi⟩ : ∃ x, x = rowI T (T.length - (i + 1)) (i + 1) := ⟨_, rfl⟩
        rw [← hRi] at hG2
        have HRi := Lib.hid hRi
        clear hRi
        go_wp2_with fail
        go_loopg [11, 9] (T.length) (fun f x y wr => ∃ (k n : Nat), x = .int .i64 k ∧ y = .int .i64 n ∧ i + 1 ≤ k ∧ k ≤ T.length ∧ T.length ≤ k + f ∧ Hid (n + (rowK T i (regionsT T i).1 (T.length - k) k + Ri) = L.length) ∧ Below w3.heap.size w3 wr)
        case atStart => exact ⟨i + 1, n, by go_num, rfl, by omega, by omega, by omega, hG2, hb⟩
        case round =>
          clear hG2 bx blt hZ4 hb
          obtain ⟨k, n, rfl, rfl, hk0, hk, hfk, hG, hb⟩ := hrel
          obtain ⟨w5, rfl⟩ : ∃ x : World, x = wr := ⟨_, rfl⟩
          obtain ⟨g5, rfl⟩ : ∃ x : Nat, x = gk := ⟨_, rfl⟩
          have hZ5 := hZ3.keeps (Keeps.of_fresh hb (fun _ => False)) (fun e => e)
          have bx := hZ5.cell 0
          have blt := hZ5.lt
          by_cases hkt : k < T.length
          · have hkt' : (k : Int) < T.length := by omega
            have hG2 : Hid (n + (rowP T i k (regionsT T i).1 (regionsT T k).1 + (rowK T i (regionsT T i).1 (T.length - (k + 1)) (k + 1) + Ri)) = L.length) := by
              show _ = _
              rw [← hG.out, show T.length - k = (T.length - (k + 1)) + 1 from by omega]
              simp only [rowK]; omega
            clear hG
            obtain ⟨Rk, hRk⟩ : ∃ x, x = rowK T i (regionsT T i).1 (T.length - (k + 1)) (k + 1) + Ri := ⟨_, rfl⟩
            rw [← hRk] at hG2
            have HRk := Lib.hid hRk
            clear hRk
            have hN5 := hN3.new hb
            go_wp2_with fail
            go_loopg [13, 12] (k) (fun f x y wr => ∃ (m : Nat) (b : Bool), x = .int .i64 m ∧ y = .bool b ∧ m ≤ k ∧ m ≤ f ∧ Hid ((b || ancF T i f m) = aboveT T i k) ∧ w5 = wr)
            case atStart => exact ⟨k, false, rfl, rfl, by omega, by omega, by show _ = _; rw [Bool.false_or]; exact anc_above HPAR.out i k k T.length (by omega) hkt (Nat.le_refl _) (by omega), rfl⟩
            case round =>
              obtain ⟨m, b, rfl, rfl, hm, hmf, hA, rfl⟩ := hrel
              by_cases hm0 : 0 < m
              · have hmt : m < T.length := by omega
                obtain ⟨g, o, pa, pc, e1, hg, c0, c1, c2, hp, p1, p2, q0, q1, q2⟩ := hN5.at m hmt
                cases e1
                have hpar := HPAR.out m hm0 hmt
                rw [parOf_at hmt] at hpar
                obtain ⟨f, rfl⟩ : ∃ f, gk = f + 1 := ⟨gk - 1, by omega⟩
                have hA2 : Hid ((b || (T[m].parent == (i : Int)) || ancF T i f T[m].parent) = aboveT T i k) := by
                  show _ = _
                  rw [← hA.out]
                  simp only [ancF]
                  rw [if_pos (by omega), Int.toNat_natCast, parOf_at hmt, Bool.or_assoc]
                clear hA
                generalize T[m].parent = pp at c0 hpar hA2
                obtain ⟨u, rfl⟩ := Int.eq_ofNat_of_zero_le hpar.1
                clear c1 c2 hp q0 q1 q2
                have hmI : (0 : Int) < (m : Int) := by omega
                have hmI2 : (m : Int) < (T.length : Int) := by omega
                clear hm0
                cases b with
                | true =>
                  go_wp2_with fail
                  go_roundg f
                  case measure => omega
                  case rel => exact ⟨u, true, rfl, rfl, by omega, by omega, by show _ = _; have := hA2.out; rw [Bool.true_or] at this; exact this, rfl⟩
                | false =>
                  go_wp2_with fail
                  go_roundg f
                  case measure => omega
                  case rel => exact ⟨u, ((u : Int) == (i : Int)), rfl, rfl, by omega, by omega, by show _ = _; have := hA2.out; rw [Bool.false_or] at this; exact this, rfl⟩
              · have hm00 : m = 0 := by omega
                subst hm00
                have hA2 := Lib.hid (show aboveT T i k = b from by
                  rw [← hA.out]
                  cases gk <;> simp [ancF])
                clear hA
                have hrA := fun wx hx => ref11_Regions (fun g => base ≤ g) (.slice va T.length vc) T i wx hx
                have hrB := fun wx hx => ref11_Regions (fun g => base ≤ g) (.slice va T.length vc) T k wx hx
                unfold ARegionsPost at hrA hrB
                rw [aRegions_in HC.out i hlt] at hrA
                rw [aRegions_in HC.out k hkt] at hrB
                simp only at hrA hrB
                have HTA := Lib.hid (fun (p : Nat) hp => aTrans_in HC.out i p hlt hp)
                have HTB := Lib.hid (fun (q : Nat) hq => aTrans_in HC.out k q hkt hq)
                have HOA := Lib.hid (regionsT_ok T i)
                have HOB := Lib.hid (regionsT_ok T k)
                have hlA := regionsT_len T i
                have hlB := regionsT_len T k
                have HM2 := Lib.hid (fun p q hp hq h => HMEM.out i k p q (by omega) hkt hp hq h)
                generalize (regionsT T i).1 = As at *
                generalize (regionsT T k).1 = Bs at *
                have HRA := Lib.hid hrA; clear hrA
                have HRB := Lib.hid hrB; clear hrB
                have hbs := hb.size
                go_wp2_with fail
                refine (HRA.out _ (by exact hN5)).mono ?_
                rintro e w6 ⟨ra, rfl, hownA, hb6⟩
                have hb7 := hb.trans (hb6.mono hbs)
                have hZ6 := hZ5.keeps (Keeps.of_fresh hb6 (fun _ => False)) (fun e => e)
                clear bx blt
                have bx := hZ6.cell 0
                have blt := hZ6.lt
                obtain ⟨aa, ac, rfl⟩ := owns_slice hownA
                go_wp2_with fail
                refine (HRB.out _ (by exact hN3.new hb7)).mono ?_
                rintro e w7 ⟨rb, rfl, hownB, hb8⟩
                obtain ⟨ba, bc, rfl⟩ := owns_slice hownB
                have hb9 := hb7.trans (hb8.mono hb7.size)
                clear bx blt hZ6 hZ5 hN5 hownA hownB hb7 hb8 hb6 hb HRA HRB
                go_wp2_with fail
                go_loopg [99, 9] (As.length) (fun f x y wr => ∃ (p n : Nat), x = .int .i64 p ∧ y = .int .i64 n ∧ p ≤ As.length ∧ As.length ≤ p + f ∧ Hid (n + (rowP T i k (As.drop p) Bs + Rk) = L.length) ∧ Below w3.heap.size w3 wr)
                case atStart => exact ⟨0, n, rfl, rfl, by omega, by omega, hG2, hb9⟩
                case round =>
                  clear hG2 hb9
                  obtain ⟨p, n, rfl, rfl, hp, hfp, hG, hb⟩ := hrel
                  obtain ⟨w8, rfl⟩ : ∃ x : World, x = wr := ⟨_, rfl⟩
                  obtain ⟨g8, rfl⟩ : ∃ x : Nat, x = gk := ⟨_, rfl⟩
                  by_cases hpt : p < As.length
                  · have hG2 : Hid (n + (rowQ T i k As[p] Bs + (rowP T i k (As.drop (p + 1)) Bs + Rk)) = L.length) := by
                      show _ = _
                      rw [← hG.out, List.drop_eq_getElem_cons hpt]
                      simp only [rowP]; omega
                    clear hG
                    obtain ⟨Rp, hRp⟩ : ∃ x, x = rowP T i k (As.drop (p + 1)) Bs + Rk := ⟨_, rfl⟩
                    rw [← hRp] at hG2
                    have HRp := Lib.hid hRp
                    clear hRp
                    go_wp2_with fail
                    go_loopg [104, 9] (Bs.length) (fun f x y wr => ∃ (q n : Nat), x = .int .i64 q ∧ y = .int .i64 n ∧ q ≤ Bs.length ∧ Bs.length ≤ q + f ∧ Hid (n + (rowQ T i k As[p] (Bs.drop q) + Rp) = L.length) ∧ Below w3.heap.size w3 wr)
                    case atStart => exact ⟨0, n, rfl, rfl, by omega, by omega, hG2, hb⟩
                    case round =>
                      clear hG2 hb
                      obtain ⟨q, n, rfl, rfl, hq, hfq, hG, hb⟩ := hrel
                      obtain ⟨w9, rfl⟩ : ∃ x : World, x = wr := ⟨_, rfl⟩
                      obtain ⟨g9, rfl⟩ : ∃ x : Nat, x = gk := ⟨_, rfl⟩
                      by_cases hqt : q < Bs.length
                      · have hG2 : Hid (n + (cellN T i k As[p] Bs[q] + (rowQ T i k As[p] (Bs.drop (q + 1)) + Rp)) = L.length) := by
                          show _ = _
                          rw [← hG.out, List.drop_eq_getElem_cons hqt]
                          simp only [rowQ]; omega
                        clear hG
                        have HREST : Hid (∀ m : Nat, m = n + cellN T i k As[p] Bs[q] → m + (rowQ T i k As[p] (Bs.drop (q + 1)) + Rp) = L.length) := by
                          show ∀ m, _
                          intro m hm
                          rw [hm, ← hG2.out]; omega
                        have hnb : n ≤ 943718400 := by have := hG2.out; omega
                        clear hG2
                        have hmem := HM2.out p q hpt hqt
                        have hxo := HOA.out _ (List.getElem_mem hpt)
                        have hyo := HOB.out _ (List.getElem_mem hqt)
                        have hN9 := hN3.new hb
                        have hZ9 := hZ3.keeps (Keeps.of_fresh hb (fun _ => False)) (fun e => e)
                        have hov9 := row_new hov hb
                        have hs9 := hb.size
                        go_upto_block 9 with fail
                        refine wp_code (c' := lovBlk 9) (by kernel_rfl) ?_
                        refine ovl_cell base Z vc lc ob i k p q n (cellN T i k As[p] Bs[q]) va la T L b As[p] Bs[q] w9 hN9 hZ9 hov9 (HTA.out p hpt) (HTB.out q hqt) hxo hyo hA2.out rfl hmem hnb hLb ?_
                        refine Lib.hid ?_
                        rintro x2 x19 x20 x21 x22 x23 x24 x25 x27 x106 x107 x108 x109 x110 x111 x112 x113 x114 x115 x116 x117 x118 x119 x120 x121 x122 x123 x124 x125 x126 x127 x128 x129 x130 x131 x132 x133 x134 x135 x136 x137 x138 x139 x140 x141 x142 x143 x144 x145 x146 x147 x148 x149 x150 x151 x152 x153 x154 x155 x156 x157 x158 x159 x160 x161 x162 x163 x164 x165 x166 x167 x168 x169 x170 x171 x172 x173 x174 x175 x176 x177 x178 x179 x180 x181 x182 x183 x184 x185 x186 x187 x188 x189 x190 x191 x192 x193 x194 x195 x196 wx hbx
                        generalize cellN T i k As[p] Bs[q] = cn at *
                        clear hN9 hZ9 hov9 hmem hxo hyo
                        go_wp2_with fail
                        go_roundg (g9 - 1)
                        case measure => omega
                        case rel => exact ⟨q + 1, n + cn, by go_num, rfl, by omega, by omega, Lib.hid (HREST.out (n + cn) rfl), hb.trans (hbx.mono hs9)⟩
                      · have hF : Hid (n + Rp = L.length) := by
                          show _ = _
                          rw [← hG.out, List.drop_eq_nil_of_le (by omega)]; simp [rowQ]
                        go_wp2_with fail
                        go_roundg (g8 - 1)
                        case measure => omega
                        case rel => exact ⟨p + 1, n, by go_num, rfl, by omega, by omega, Lib.hid (by have := hF.out; rw [HRp.out] at this; exact this), hb⟩
                  · have hF : Hid (n + Rk = L.length) := by
                      show _ = _
                      rw [← hG.out, List.drop_eq_nil_of_le (by omega)]; simp [rowP]
                    go_wp2_with fail
                    go_roundg (g5 - 1)
                    case measure => omega
                    case rel => exact ⟨k + 1, n, by go_num, rfl, by omega, by omega, by omega, Lib.hid (by have := hF.out; rw [HRk.out] at this; exact this), hb⟩
          · have hF : Hid (n + Ri = L.length) := by
              show _ = _
              rw [← hG.out, show T.length - k = 0 from by omega]; simp [rowK]
            go_wp2_with fail
            go_roundg (g4 - 1)
            case measure => omega
            case rel => exact ⟨i + 1, n, by go_num, rfl, by omega, by omega, Lib.hid (by have := hF.out; rw [HRi.out] at this; exact this), hb⟩
      · have hn : n = L.length := by have := hG.out; rw [show T.length - i = 0 from by omega] at this; simpa [rowI] using this
        subst hn
        have hb6 := hb5.trans (hb.mono hbs5)
        clear hG
        go_wp2_with fail
        refine (law_awake _).mono ?_
        rintro e w7 ⟨rfl, hb12⟩
        go_wp2_with fail
        go_ret
        exact ⟨rfl, hb6.trans (hb12.mono hb6.size)⟩
  · rw [if_pos hc] at hO
    rw [hO] at hov ⊢
    simp only at hov ⊢
    obtain ⟨la, lc, rfl⟩ := owns_slice hov
    have hcc : ((aCheckT T).2 == (aCheckT T).2) = true := beq_self_eq_true _
    have hce : ((aCheckT T).2 != 0) = true := by simpa using hc
    have hck := fun wx hx => address_Check (fun g => base ≤ g) (.slice va T.length vc) T wx hx
    clear hc hO hov
    generalize (aCheckT T).2 = er at *
    have HCK := Lib.hid hck; clear hck
    have bx := hZ3.cell 0
    have blt := hZ3.lt
    go_wp2_with fail
    refine (HCK.out _ (by exact hN3)).mono ?_
    rintro e w4 ⟨rfl, hb6⟩
    have hb7 := hb5.trans (hb6.mono hbs5)
    go_wp2_with fail
    refine (law_awake _).mono ?_
    rintro e w7 ⟨rfl, hb12⟩
    go_wp2_with fail
    go_ret
    exact ⟨rfl, hb7.trans (hb12.mono hb7.size)⟩
end Go.Proofs.Ythkoaakicdhnpaa
