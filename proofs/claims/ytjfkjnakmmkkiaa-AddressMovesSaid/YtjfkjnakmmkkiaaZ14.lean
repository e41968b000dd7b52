/- Contracts of bringupgrow: pieces of Buses: the loop over the nodes (printed by gbus.py) | Contracts of bringupgrow: Buses. | The law AddressMoves: its plain law and its walk. -/
import Derived.Test.YtjfkjnakmmkkiaaZ13
import Derived.Deep.LoopGhost
import Derived.Deep.DeepCutAuto
import Derived.Deep.CutBlock
import Derived.Test.YtjfkjnakmmkkiaaZ12

namespace Go.Proofs.Ytjfkjnakmmkkiaa
open Go.RowKit

set_option maxHeartbeats 4000000 in
set_option maxRecDepth 100000 in
theorem bus_blk2 {Q : Exit → Act → World → Prop} (B b base Z N gA gS : Nat) (w1 w : World) (hZ1b : Z ≠ b) (hbs : base ≤ w1.heap.size) (hZB : B ≤ Z) (hl2 : N ≤ 1000) (hgA : w1.heap.size ≤ gA) (hgS : w1.heap.size ≤ gS) (hBA : B ≤ gA) (hBS : B ≤ gS)  {u1 u2 u3 u4 u6 u9 u10 u11 u12 u13 u14 u15 u16 u17 u18 u19 u20 u21 u22 u23 u24 u25 u26 u27 u28 u29 u30 u31 u32 u33 u34 u35 u36 u37 u38 u39 u40 u43 u44 u45 u46 u47 u48 u49 u50 u51 u52 u53 u54 u55 u56 u57 u58 u59 u60 u61 u62 u63 u64 u65 u66 u67 u68 u69 u70 u71 u72 u73 u74 u75 u76 u77 u78 u79 u80 u81 u82 u83 u84 u85 u86 u87 u88 u89 u90 u91 u92 u93 u94 u95 u96 u97 u98 u99 u100 u101 u102 u103 u104 u105 u106 u107 u108 u109 u110 u111 u112 u113 u114 u115 u116 u117 u118 u119 u120 u121 u122 u123 u124 u125 u126 u127 u128 u129 u130 u131 u132 u133 u134 u135 u136 u137 u138 u139 u140 u141 u142 u143 u144 u145 u146 u147 u148 u149 u150 u151 u152 u153 u154 u155 u156 u157 u158 u159 u160 u161 u162 u163 u164 u165 u166 u167 u168 u169 u170 u171 u172 u173 u174 u175 u176 u177 u178 u179 u180 u181 u182 u183 u184 u185 u186 u187 u188 u189 u190 u191 u192 u193 u194 u195 u196 u197 u198 u199 u200 u201 u202 : Value}
    (hB : Hid (BusS B b base Z N gA gS w1 w)) (hQ : Hid (∀ (x9 x10 x11 x12 x13 x14 x15 x42 x43 x44 x45 x46 x47 x48 x49 x50 x51 x52 x53 x54 x55 x56 x57 x58 x59 x60 x61 x62 x63 x64 x65 x66 x67 x68 x69 x70 x71 x72 x73 x74 x75 x76 x77 x78 x79 x80 x81 x82 x83 x84 x85 x86 x87 x88 x89 x90 x91 x92 x93 x94 x95 x96 x97 x98 x99 x100 x101 x102 x103 x104 x105 x106 x107 x108 x109 x110 x111 x112 x113 x114 x115 x116 x117 x118 x119 x120 x121 x122 x123 x124 x125 x126 x127 x128 x129 x130 x131 x132 x133 x134 x135 x136 x137 x138 x139 x140 x141 x142 x143 x144 x145 x146 x147 x148 x149 x150 x151 x152 x153 x154 x155 x156 x157 x158 x159 x160 x161 x162 x163 x164 x165 x166 x167 x168 x169 x170 : Value) (wx : World), BusS B b base Z N gA gS w1 wx → Q .normal ⟨#[.pointer (some ⟨b, 0, none⟩), u1, u2, u3, u4, .pointer (some ⟨Z, 0, none⟩), u6, .slice (some ⟨gA, 0, none⟩) N N, .slice (some ⟨gS, 0, none⟩) N N, x9, x10, x11, x12, x13, x14, x15, u16, u17, u18, u19, u20, u21, u22, u23, u24, u25, u26, u27, u28, u29, u30, u31, u32, u33, u34, u35, u36, u37, u38, u39, u40, .int .i64 N, x42, x43, x44, x45, x46, x47, x48, x49, x50, x51, x52, x53, x54, x55, x56, x57, x58, x59, x60, x61, x62, x63, x64, x65, x66, x67, x68, x69, x70, x71, x72, x73, x74, x75, x76, x77, x78, x79, x80, x81, x82, x83, x84, x85, x86, x87, x88, x89, x90, x91, x92, x93, x94, x95, x96, x97, x98, x99, x100, x101, x102, x103, x104, x105, x106, x107, x108, x109, x110, x111, x112, x113, x114, x115, x116, x117, x118, x119, x120, x121, x122, x123, x124, x125, x126, x127, x128, x129, x130, x131, x132, x133, x134, x135, x136, x137, x138, x139, x140, x141, x142, x143, x144, x145, x146, x147, x148, x149, x150, x151, x152, x153, x154, x155, x156, x157, x158, x159, x160, x161, x162, x163, x164, x165, x166, x167, x168, x169, x170, u171, u172, u173, u174, u175, u176, u177, u178, u179, u180, u181, u182, u183, u184, u185, u186, u187, u188, u189, u190, u191, u192, u193, u194, u195, u196, u197, u198, u199, u200, u201, u202], []⟩ wx)) :
    (busBlk 2).wp Try.prog Q ⟨#[.pointer (some ⟨b, 0, none⟩), u1, u2, u3, u4, .pointer (some ⟨Z, 0, none⟩), u6, .slice (some ⟨gA, 0, none⟩) N N, .slice (some ⟨gS, 0, none⟩) N N, u9, u10, u11, u12, u13, u14, u15, u16, u17, u18, u19, u20, u21, u22, u23, u24, u25, u26, u27, u28, u29, u30, u31, u32, u33, u34, u35, u36, u37, u38, u39, u40, .int .i64 N, .int .i64 0, u43, u44, u45, u46, u47, u48, u49, u50, u51, u52, u53, u54, u55, u56, u57, u58, u59, u60, u61, u62, u63, u64, u65, u66, u67, u68, u69, u70, u71, u72, u73, u74, u75, u76, u77, u78, u79, u80, u81, u82, u83, u84, u85, u86, u87, u88, u89, u90, u91, u92, u93, u94, u95, u96, u97, u98, u99, u100, u101, u102, u103, u104, u105, u106, u107, u108, u109, u110, u111, u112, u113, u114, u115, u116, u117, u118, u119, u120, u121, u122, u123, u124, u125, u126, u127, u128, u129, u130, u131, u132, u133, u134, u135, u136, u137, u138, u139, u140, u141, u142, u143, u144, u145, u146, u147, u148, u149, u150, u151, u152, u153, u154, u155, u156, u157, u158, u159, u160, u161, u162, u163, u164, u165, u166, u167, u168, u169, u170, u171, u172, u173, u174, u175, u176, u177, u178, u179, u180, u181, u182, u183, u184, u185, u186, u187, u188, u189, u190, u191, u192, u193, u194, u195, u196, u197, u198, u199, u200, u201, u202], []⟩ w := by
  simp only [busIf, ifOf, busBlk, blkOf, Try.f12, Option.getD_some, reduceIte, Nat.reduceEqDiff]
  go_wp2_with fail
  go_loopg [42] N (fun f c wr => ∃ k : Nat, c = .int .i64 k ∧ k ≤ N ∧ N ≤ k + f ∧ BusS B b base Z N gA gS w1 wr)
  case atStart => exact ⟨0, rfl, by omega, by omega, hB.out⟩
  case round =>
    clear hB
    obtain ⟨k, rfl, hkN, hkf, hB⟩ := hrel
    by_cases hlt : k < N
    · have hlt' : (k : Int) < N := by omega
      obtain ⟨⟨lA, hA, hA1, xA, hcA⟩, ⟨lS, hS, hS1, xS, hcS⟩⟩ := hB.row hlt
      have hfA := hA.free k
      have hB1 := hB.put hZ1b (k := k) hA hA1.out hgA 1 (by simp) hBA
      obtain ⟨_, ⟨lS1, hS1, hS11, xS1, hcS1⟩⟩ := hB1.row hlt
      have hfS1 := hS1.free k
      have hB2 := hB1.put hZ1b (k := k) hS1 hS11.out hgS 1 (by simp) hBS
      obtain ⟨ta, tc, T, hZ, hr, hs, hTN⟩ := hB2.var
      have hX := hZ.cell 0
      have HB2 := Lib.hid hB2
      clear hB hB1 hA hS hS1 hB2 hA1 hS11
      go_wp2_with fail
      refine (ref3_Path (fun g => base ≤ g) _ T k _ (by exact hr.in)).mono ?_
      rintro e w2 ⟨rfl, hb2⟩
      have hB3 := HB2.out.new hZ1b hb2
      clear HB2 hb2 hX hZ hr hs hTN hcA hcS hfA hfS1 hcS1
      generalize pathQ T k = s
      clear T
      have hT3 := hB3.1
      have HB3 := Lib.hid hB3
      clear hB3
      go_wp2_with fail
      refine (mk_N B b 3 _ hT3 (by omega) (by omega)).mono ?_
      rintro e w3 ⟨q, rfl, hq0, hq1, hT4, hk4⟩
      have HB4 := Lib.hid (HB3.out.call hZ1b hk4 hT4)
      clear HB3 hT3 hk4 hT4
      go_upto_if 56 with fail
      refine wp_code (c' := busIf 56) (by kernel_rfl) ?_
      refine bus_if56 B b base Z N gA gS w1 _ hZ1b hbs hZB hl2 hgA hgS hBA hBS k hlt s q HB4 ?_
      refine Lib.hid ?_
      rintro v56 v57 v58 v59 v60 v61 v62 v63 v64 v65 v66 v67 v68 v69 v70 w6 hB6
      have hT6 := hB6.1
      have HB6 := Lib.hid hB6
      clear hB6 HB4 hq0 hq1
      go_wp2_with fail
      refine (mk_N B b 3 _ hT6 (by omega) (by omega)).mono ?_
      rintro e w7 ⟨q, rfl, hq0, hq1, hT7, hk7⟩
      have HB7 := Lib.hid (HB6.out.call hZ1b hk7 hT7)
      clear HB6 hT6 hk7 hT7
      go_upto_if 73 with fail
      refine wp_code (c' := busIf 73) (by kernel_rfl) ?_
      refine bus_if73 B b base Z N gA gS w1 _ hZ1b hbs hZB hl2 hgA hgS hBA hBS k hlt s q HB7 ?_
      refine Lib.hid ?_
      rintro v73 v74 v75 v76 v77 v78 v79 v80 v81 v82 v83 v84 v85 v86 v87 w8 hcut
      clear HB7 hq0 hq1
      by_cases hk0 : k = 0
      · have hz : ((k : Int) == 0) = true := by simp [hk0]
        have HK := Lib.hid hk0
        have HB8 := Lib.hid hcut
        clear hk0 hcut
        go_wp2_with fail
        go_roundg (N - 1)
        case measure => have := HK.out; omega
        case rel => exact ⟨k + 1, by go_num, by omega, by have := HK.out; omega, HB8.out⟩
      · have hz : ((k : Int) == 0) = false := by rw [beq_eq_false_iff_ne]; omega
        have hk1 : 0 < k := by omega
        clear hk0
        obtain ⟨ta2, tc2, T, hZ, hr, hs, hTN⟩ := hcut.var
        have hkT : k < T.length := by rw [hTN.out]; exact hlt
        obtain ⟨g, o, pa2, pc2, rfl, -, c0, -⟩ := hr.in.at k hkT
        obtain ⟨hp0, hp1⟩ := hs.2.1 k hk1 hkT
        rw [parOf_at hkT] at hp0 hp1
        generalize T[k].parent = p at *
        obtain ⟨i1, rfl⟩ := Int.eq_ofNat_of_zero_le hp0
        have hi1 : i1 < N := by omega
        have hX := hZ.cell 0
        have hT8 := hcut.1
        have HB8 := Lib.hid hcut
        clear hcut hr hs hTN hkT hZ
        go_wp2_with fail
        refine (mk_N B b 3 _ hT8 (by omega) (by omega)).mono ?_
        rintro e w9 ⟨q, rfl, hq0, hq1, hT9, hk9⟩
        have HB9 := Lib.hid (HB8.out.call hZ1b hk9 hT9)
        clear HB8 hT8 hk9 hT9 c0 hX hp1 hp0
        go_upto_block 4 with fail
        refine wp_code (c' := busBlk 4) (by kernel_rfl) ?_
        refine bus_blk4 B b base Z N gA gS w1 _ hZ1b hbs hZB hl2 hgA hgS hBA hBS k i1 hlt hi1 q hq0 hq1 HB9 ?_
        refine Lib.hid ?_
        rintro v12 v14 v98 v99 v100 v101 v102 v103 v104 v105 v106 v107 v108 v109 v110 v111 v112 v113 v114 v115 v116 v117 v118 v119 v120 v121 v122 w10 ⟨⟨t, rfl, ht⟩, hB10⟩
        clear HB9 hq0 hq1
        have hT10 := hB10.1
        have HB10 := Lib.hid hB10
        clear hB10
        go_wp2_with fail
        refine (mk_N B b 3 _ hT10 (by omega) (by omega)).mono ?_
        rintro e w11 ⟨q2, rfl, hq0, hq1, hT11, hk11⟩
        have HB11 := Lib.hid (HB10.out.call hZ1b hk11 hT11)
        clear HB10 hT10 hk11 hT11
        go_upto_block 6 with fail
        refine wp_code (c' := busBlk 6) (by kernel_rfl) ?_
        refine bus_blk6 B b base Z N gA gS w1 _ hZ1b hbs hZB hl2 hgA hgS hBA hBS k i1 hlt hi1 q2 hq0 hq1 HB11 ?_
        refine Lib.hid ?_
        rintro v13 v15 v125 v126 v127 v128 v129 v130 v131 v132 v133 v134 v135 v136 v137 v138 v139 v140 v141 v142 v143 v144 v145 v146 v147 v148 v149 v150 v151 v152 v153 v154 v155 v156 w12 ⟨⟨t2, rfl, ht2⟩, hB12⟩
        clear HB11 hq0 hq1
        have HB12 := Lib.hid hB12
        clear hB12
        go_upto_if 158 with fail
        generalize (!t.toList.isEmpty) = zb
        refine wp_code (c' := busIf 158) (by kernel_rfl) ?_
        refine bus_if158 B b base Z N gA gS w1 _ hZ1b hbs hZB hl2 hgA hgS hBA hBS s t ht zb HB12 ?_
        refine Lib.hid ?_
        rintro v158 v159 v160 v161 v162 w13 hcut
        clear HB12
        have hT13 := hcut.1
        have HB13 := Lib.hid hcut
        clear hcut
        go_wp2_with fail
        refine (mk_N B b 4 _ hT13 (by omega) (by omega)).mono ?_
        rintro e w14 ⟨q4, rfl, hq0, hq1, hT14, hk14⟩
        have HB14 := Lib.hid (HB13.out.call hZ1b hk14 hT14)
        clear HB13 hT13 hk14 hT14
        go_upto_if 165 with fail
        refine wp_code (c' := busIf 165) (by kernel_rfl) ?_
        refine bus_if165 B b base Z N gA gS w1 _ hZ1b hbs hZB hl2 hgA hgS hBA hBS s t2 ht2 q4 HB14 ?_
        refine Lib.hid ?_
        rintro v165 v166 v167 v168 v169 w15 hcut
        have HB15 := Lib.hid hcut
        clear hcut HB14
        go_wp2_with fail
        go_roundg (N - k - 1)
        case measure => omega
        case rel => exact ⟨k + 1, by go_num, by omega, by omega, HB15.out⟩
    · have hB' := Lib.hid hB
      clear hB
      go_wp2_with fail
      exact hQ.out _ _ _ _ _ _ _ _ _ _ _ _ _ _ _ _ _ _ _ _ _ _ _ _ _ _ _ _ _ _ _ _ _ _ _ _ _ _ _ _ _ _ _ _ _ _ _ _ _ _ _ _ _ _ _ _ _ _ _ _ _ _ _ _ _ _ _ _ _ _ _ _ _ _ _ _ _ _ _ _ _ _ _ _ _ _ _ _ _ _ _ _ _ _ _ _ _ _ _ _ _ _ _ _ _ _ _ _ _ _ _ _ _ _ _ _ _ _ _ _ _ _ _ _ _ _ _ _ _ _ _ _ _ _ _ _ _ hB'.out
end Go.Proofs.Ytjfkjnakmmkkiaa

namespace Go.Proofs.Ytjfkjnakmmkkiaa
open Go.RowKit

/-- The tree of the first node alone. -/
def oneT : List NodeT := [⟨-1, ⟨#[]⟩, []⟩]
theorem first_tree (w : World) (base : Nat) (hb : base ≤ w.heap.size) : TreeRow (w.alloc (.cells #[.int .i64 (-1), .string ⟨#[]⟩, .slice none 0 0] 42)) base (.slice (some ⟨w.heap.size, 0, none⟩) 1 1) oneT := by
  refine ⟨[.slice none 0 0], rfl, ?_, ?_, ?_⟩
  · exact World.ownsRow_lit w #[.int .i64 (-1), .string ⟨#[]⟩, .slice none 0 0] 1 hb (by decide) (by decide)
  · intro k hk hk2
    obtain rfl : k = 0 := by simp [oneT] at hk; exact hk
    exact PropRow.nil _ _
  · intro m hm
    simp only [oneT, List.mem_singleton] at hm
    subst hm
    unfold NodeOk; decide

theorem shape_one : Shape oneT := ⟨by decide, fun i h1 h2 => by simp [oneT] at h2; omega, rfl⟩

/-- Buses in its first loop. -/
def BusA (B b base Z : Nat) (m : Int) (W w : World) : Prop := ∃ v T, Tape B w b ∧ Holds w Z #[v] 27 ∧ TreeRow w base v T ∧ Shape T ∧ (T.length : Int) ≤ m ∧ Keeps (fun i => i = b ∨ i = Z) W w

set_option maxHeartbeats 4000000 in
set_option maxRecDepth 100000 in
theorem grow_Buses (B b : Nat) (n : Int) (w : World) (h : Tape B w b) (hn : 0 ≤ n) (hn2 : n ≤ 20) :
    Calls Try.prog 12 #[.pointer (some ⟨b, 0, none⟩), .int .i64 n] w fun e w' => ∃ v T, e = .returned (.agg #[v]) ∧ TreeRow w' w.heap.size v T ∧ Shape T ∧ (T.length : Int) ≤ n + 1 ∧ Tape B w' b ∧ Keeps (· = b) w w' := by
  have hlt := h.lt
  have hBw : B ≤ w.heap.size := Nat.le_trans h.1 (Nat.le_of_lt hlt)

  have hb0 : Below w.heap.size w (w.alloc (.cells #[.slice none 0 0] 27)) := (Below.refl _ _).alloc (Nat.le_refl _) _
  have hr0 := first_tree (w.alloc (.cells #[.slice none 0 0] 27)) w.heap.size (by simp)
  have hH0 := (Holds.new w #[.slice none 0 0] 27).alloc (.cells #[.int .i64 (-1), .string ⟨#[]⟩, .slice none 0 0] 42)
  have hw1 : IntKind.i64.wrap (n + 1) = n + 1 := IntWalk.i64_in _ (by omega)
  go_enter Try.func12, Try.ntmps12
  go_wp2_with fail
  have hZn := Holds.newAt (w := (w.alloc (.cells #[.slice none 0 0] 27)).alloc (.cells #[.int .i64 (-1), .string ⟨#[]⟩, .slice none 0 0] 42)) (B := w.heap.size + 1 + 1) (by simp) #[.slice (some ⟨w.heap.size + 1, 0, none⟩) 1 1] 27
  have hb1 : Below w.heap.size w (((w.alloc (.cells #[.slice none 0 0] 27)).alloc (.cells #[.int .i64 (-1), .string ⟨#[]⟩, .slice none 0 0] 42)).alloc (.cells #[.slice (some ⟨w.heap.size + 1, 0, none⟩) 1 1] 27)) := (hb0.alloc (by simp) _).alloc (by simp; omega) _
  refine (mk_N B b (n + 1) _ (by exact h.new hb1) (by omega) (by omega)).mono ?_
  rintro e w1 ⟨r, rfl, hr1, hr2, ht1, k1⟩
  have hZ1 := hZn.keeps k1 (by omega)
  have hR1 := ((hr0.new (by exact (Below.refl _ _).alloc (Nat.le_refl _) _)).tape (by exact h.new hb1) k1)
  have hK1 := (Keeps.of_fresh hb1 (fun i => i = b)).trans k1 (fun _ _ e => e)
  have hZ1b : w.heap.size + 1 + 1 ≠ b := by omega
  have hszw : w.heap.size + 1 + 1 < w1.heap.size := hZ1.lt
  have hA0 : BusA B b w.heap.size (w.heap.size + 1 + 1) 1 w1 w1 := ⟨_, _, ht1, hZ1, (by simpa using hR1), shape_one, by simp [oneT], Keeps.refl _ _⟩
  have hZB : B ≤ w.heap.size + 1 + 1 := by omega
  have hbs : w.heap.size ≤ w1.heap.size := by omega
  clear hZ1 hR1 ht1 hZn hr0 hb0 hb1
  generalize hZdef : w.heap.size + 1 + 1 = Z at *
  generalize hRdef : w.heap.size = base at *
  go_upto_block 0 with fail
  go_cut [] (fun wx => BusA B b base Z (n + 1) w1 wx)
  case first =>
    go_wp2_with fail
    go_loopg [6] (r.toNat) (fun f x wr => ∃ (q m : Int), x = .int .i64 q ∧ 0 ≤ q ∧ q.toNat ≤ f ∧ m + q = r + 1 ∧ BusA B b base Z m w1 wr)
    case atStart => exact ⟨r, 1, rfl, hr1, by omega, by omega, hA0⟩
    case round =>
      obtain ⟨q, m, rfl, hq0, hqf, hqm, v, T, hT, hZ, hr, hs, hl, hk⟩ := hrel
      by_cases hq : 0 < q
      · have hX := hZ.cell 0
        have hXf := hZ.free 0
        have hs1 := hs.1
        have hbx : base ≤ wr.heap.size := Nat.le_trans hbs hk.size
        have hl2 : T.length ≤ 1000 := by omega
        go_wp2_with fail
        refine (grow_Step B b base v T _ hT hr hs1 hl2 hbx).mono ?_
        rintro e w2 ⟨v2, T2, rfl, hr2, hst, hT2, hk2⟩
        obtain ⟨a2, c2, rfl⟩ := hr2.slice
        have hZ2 := hZ.keeps hk2 hZ1b
        have y0 := hZ2.cell 0
        have yf := hZ2.free 0
        have hlen2 : Shape T2 ∧ (T2.length : Int) ≤ m + 1 := by
          rcases hst with rfl | h2
          · exact ⟨hs, by omega⟩
          · obtain ⟨h3, h4⟩ := h2 rfl hs
            exact ⟨h3, by omega⟩
        have k1 : Keeps (· = Z) w2 (w2.setCell ⟨Z, 0, none⟩ (.slice a2 T2.length c2)) := (Keeps.refl (· = Z) w2).setCell (p := ⟨Z, 0, none⟩) (Or.inr rfl) _
        have hfin : BusA B b base Z (m + 1) w1 (w2.setCell ⟨Z, 0, none⟩ (.slice a2 T2.length c2)) :=
          ⟨_, T2, hT2.keeps k1 (fun i e => by subst e; exact ⟨hZB, hZ1b⟩), hZ2.set 0 _, hr2.set hZ2 (by decide) (by decide) 0 _, hlen2.1, hlen2.2, (hk.trans (hk2.mono (fun i _ e => show i = b ∨ i = Z from Or.inl e)) (fun _ _ e => e)).trans (k1.mono (fun i _ e => show i = b ∨ i = Z from Or.inr e)) (fun _ _ e => e)⟩
        have HF := Lib.hid hfin
        clear hfin hlen2 hst
        go_wp2_with fail
        go_roundg (q - 1).toNat
        case measure => omega
        case rel => exact ⟨q - 1, m + 1, rfl, by omega, by omega, by omega, HF.out⟩
      · have hq0 : q = 0 := by omega
        subst hq0
        have hfin : BusA B b base Z (n + 1) w1 wr := ⟨v, T, hT, hZ, hr, hs, by omega, hk⟩
        have HF := Lib.hid hfin
        clear hfin
        go_wp2_with fail
        go_meet
        case rel => exact HF.out
  case rest =>
    obtain ⟨v, T, hT, hZ, hr, hs, hl, hk⟩ := hcut
    obtain ⟨wm, rfl⟩ : ∃ x : World, x = wc := ⟨_, rfl⟩
    have hX := hZ.cell 0
    have hXf := hZ.free 0
    obtain ⟨va, vc, rfl⟩ := hr.slice
    have hl2 : T.length ≤ 1000 := by omega
    have hmk := fun wx => make_ints T.length hl2 wx
    have hZa := (hZ.alloc (.cells (Array.replicate T.length (.int .i64 0)) 3)).cell 0
    go_upto_region 6 with fail
    go_cut [7, 8] (fun y z wx => ∃ gA gS : Nat, y = .slice (some ⟨gA, 0, none⟩) T.length T.length ∧ z = .slice (some ⟨gS, 0, none⟩) T.length T.length ∧ w1.heap.size ≤ gA ∧ w1.heap.size ≤ gS ∧ B ≤ gA ∧ B ≤ gS ∧ BusS B b base Z T.length gA gS w1 wx)
    case first =>
      go_region
      · go_wp2_with fail
        go_meet
        case rel => exact ⟨_, _, rfl, rfl, BusS.begin hZ1b hT hZ hr hs hk (Or.inl ⟨rfl, rfl⟩)⟩
      · go_wp2_with fail
        go_meet
        case rel => exact ⟨_, _, rfl, rfl, BusS.begin hZ1b hT hZ hr hs hk (Or.inr ⟨rfl, rfl⟩)⟩
    case rest =>
      clear hZa hmk hX hXf hZ hr hT hk hs
      obtain ⟨N, hN⟩ : ∃ N, T.length = N := ⟨_, rfl⟩
      rw [hN] at hcut hl hl2
      clear hN T
      obtain ⟨gA, gS, rfl, rfl, hgA, hgS, hBA, hBS, hB⟩ := hcut
      obtain ⟨wo, rfl⟩ : ∃ x : World, x = wc := ⟨_, rfl⟩
      obtain ⟨pa, pc, T, hZ, hr, hs, hTN⟩ := hB.var
      have hX := hZ.cell 0
      have hB' := Lib.hid hB
      clear hB hr hs hTN hZ
      go_upto_block 2 with fail
      refine wp_code (c' := busBlk 2) (by kernel_rfl) ?_
      refine bus_blk2 B b base Z N gA gS w1 _ hZ1b hbs hZB hl2 hgA hgS hBA hBS (by exact hB') ?_
      refine Lib.hid ?_
      rintro v9 v10 v11 v12 v13 v14 v15 v42 v43 v44 v45 v46 v47 v48 v49 v50 v51 v52 v53 v54 v55 v56 v57 v58 v59 v60 v61 v62 v63 v64 v65 v66 v67 v68 v69 v70 v71 v72 v73 v74 v75 v76 v77 v78 v79 v80 v81 v82 v83 v84 v85 v86 v87 v88 v89 v90 v91 v92 v93 v94 v95 v96 v97 v98 v99 v100 v101 v102 v103 v104 v105 v106 v107 v108 v109 v110 v111 v112 v113 v114 v115 v116 v117 v118 v119 v120 v121 v122 v123 v124 v125 v126 v127 v128 v129 v130 v131 v132 v133 v134 v135 v136 v137 v138 v139 v140 v141 v142 v143 v144 v145 v146 v147 v148 v149 v150 v151 v152 v153 v154 v155 v156 v157 v158 v159 v160 v161 v162 v163 v164 v165 v166 v167 v168 v169 v170 wc hcut
      clear hX hB'
      obtain ⟨w16, rfl⟩ : ∃ x : World, x = wc := ⟨_, rfl⟩
      have hT16 := hcut.1
      have HB16 := Lib.hid hcut
      clear hcut
      go_wp2_with fail
      refine (mk_N B b 12 _ hT16 (by omega) (by omega)).mono ?_
      rintro e w17 ⟨q, rfl, hq0, hq1, hT17, hk17⟩
      have HB17 := Lib.hid (HB16.out.call hZ1b hk17 hT17)
      clear HB16 hT16 hk17
      go_upto_if 173 with fail
      refine wp_code (c' := busIf 173) (by kernel_rfl) ?_
      refine bus_if173 B b base Z N gA gS w1 _ hZ1b hbs hZB hl2 hgA hgS hBA hBS q HB17 ?_
      refine Lib.hid ?_
      rintro v16 v173 v174 v175 v176 v177 v178 v179 v180 v181 v182 v183 v184 v185 v186 v187 v188 v189 v190 v191 v192 v193 v194 v195 v196 v197 v198 v199 v200 v201 wc hcut
      clear HB17 hT17 hq0 hq1
      obtain ⟨w20, rfl⟩ : ∃ x : World, x = wc := ⟨_, rfl⟩
      obtain ⟨hT20, ⟨v, T, hZ, hr, hs, hTN⟩, _, _, hk20⟩ := hcut
      obtain ⟨qa, qc, rfl⟩ := hr.slice
      have hbZ : base ≠ Z := by omega
      have hbb : base ≠ b := by omega
      have hR1 : Holds w1 base #[.slice none 0 0] 27 := (hH0.alloc (.cells #[.slice (some ⟨base + 1, 0, none⟩) 1 1] 27)).keeps k1 hbb
      have hR := hR1.keeps hk20 (by omega)
      have hX := hZ.cell 0
      have hY := hR.cell 0
      have hYf := hR.free 0
      have kz : Keeps (· = base) w20 (w20.setCell ⟨base, 0, none⟩ (.slice qa T.length qc)) := (Keeps.refl (· = base) w20).setCell (p := ⟨base, 0, none⟩) (Or.inr rfl) _
      have q0 := (hR.set 0 (.slice qa T.length qc)).cell 0
      have HF := Lib.hid (show TreeRow (w20.setCell ⟨base, 0, none⟩ (.slice qa T.length qc)) base (.slice qa T.length qc) T ∧ Shape T ∧ (T.length : Int) ≤ n + 1 ∧ Tape B (w20.setCell ⟨base, 0, none⟩ (.slice qa T.length qc)) b ∧ Keeps (· = b) w (w20.setCell ⟨base, 0, none⟩ (.slice qa T.length qc)) from
        ⟨hr.set hR (by decide) (by decide) 0 _, hs, by rw [hTN]; exact hl, hT20.keeps kz (fun i e => by subst e; exact ⟨hBw, hbb⟩),
          hK1.trans ((hk20.mono (fun i _ e => (show i = b ∨ i = Z ∨ i = base from by omega))).trans kz (fun i _ e => (show i = b ∨ i = Z ∨ i = base from by omega))) (fun i hi e => by omega)⟩)
      clear hT20 hr hs hTN hk20 hR hR1 hZ kz
      go_wp2_with fail
      exact bodyPost_ret (v := .agg #[.slice qa T.length qc]) (by simp [results, Try.results12, go_sem, q0]) rfl ⟨_, _, rfl, by rw [hRdef]; exact HF.out.1, HF.out.2⟩
end Go.Proofs.Ytjfkjnakmmkkiaa

namespace Go.Proofs.Ytjfkjnakmmkkiaa
open Go.RowKit

theorem checkF_all (T : List NodeT) : ∀ (f k : Nat), (aCheckF T f k).2 = 0 → ∀ j, k ≤ j → j < k + f → nodeErr T j = 0 := by
  intro f
  induction f with
  | zero => intro k _ j h1 h2; omega
  | succ f ih =>
    intro k h j h1 h2
    unfold aCheckF at h
    by_cases he : nodeErr T k ≠ 0
    · rw [if_pos he] at h; exact absurd h he
    · rw [if_neg he] at h
      by_cases e : j = k
      · subst e; simpa using he
      · exact ih (k + 1) h j (by omega) (by omega)
theorem check_all {T : List NodeT} (h : (aCheckT T).2 = 0) (j : Nat) (hj : j < T.length) : nodeErr T j = 0 := by
  have h1 := aCheck_ok h
  unfold aCheckT at h
  rw [if_neg (by simpa using h1)] at h
  exact checkF_all T T.length 0 h j (Nat.zero_le _) (by omega)
theorem begin_in {T : List NodeT} (h : (aCheckT T).2 = 0) (j : Nat) (hj : j < T.length) : beginT T j = 0 := by
  unfold beginT
  rw [if_neg (by simpa using aCheck_ok h), if_neg (by omega)]
theorem aRegions_in {T : List NodeT} (h : (aCheckT T).2 = 0) (j : Nat) (hj : j < T.length) : aRegionsT T j = ((regionsT T j).1, 0) := by
  have h1 := check_all h j hj
  have h2 : (regionsT T j).2 = 0 := by
    unfold nodeErr at h1
    by_cases a : (pairT T j).2.2 ≠ 0
    · rw [if_pos a] at h1; exact absurd h1 a
    · rw [if_neg a] at h1
      by_cases b : (regionsT T j).2 ≠ 0
      · rw [if_pos b] at h1; exact absurd h1 b
      · simpa using b
  unfold aRegionsT
  rw [if_neg (by simp [begin_in h j hj]), Int.toNat_natCast]
  exact Prod.ext rfl h2
theorem aTrans_in {T : List NodeT} (h : (aCheckT T).2 = 0) (j k : Nat) (hj : j < T.length) (hk : k < (regionsT T j).1.length) : aTransT T j k = atRegion T j ((regionsT T j).1[k]) := by
  unfold aTransT
  rw [if_neg (by simpa using h), if_neg (by omega), if_neg (by rw [Int.toNat_natCast]; omega), Int.toNat_natCast, Int.toNat_natCast]
  simp [hk]
theorem atRegion_err (T : List NodeT) (j : Nat) (p : Int × Int) (h : (atRegion T j p).2 ≠ 0) : (atRegion T j p).2 = 27 := by
  unfold atRegion at *
  split at h
  · exact absurd rfl h
  · rename_i h2; rw [if_neg h2]
theorem atRegion_size (T : List NodeT) (j : Nat) (p : Int × Int) (h : (atRegion T j p).2 = 0) : (atRegion T j p).1.2 = p.2 := by
  unfold atRegion at *
  split at h
  · rename_i h2
    rw [if_pos h2]
    unfold translateT at *
    cases e : transF T p.2 T.length (parOf T j) p.1 with
    | none => rw [e] at h2; simp [transE] at h2
    | some b => simp [transE]
  · cases h
theorem atRegion_top (T : List NodeT) (j : Nat) (p : Int × Int) (h : parOf T j = 0) (h0 : 0 < T.length) : atRegion T j p = (p, 0) := by
  obtain ⟨n, hn⟩ : ∃ n, T.length = n + 1 := ⟨T.length - 1, by omega⟩
  have : translateT T j p.1 p.2 = (p, true) := by
    unfold translateT
    rw [h, hn]
    simp [transF, transE]
  unfold atRegion
  rw [this]; simp

theorem owns_len {w : World} {base : Nat} {e : TypeId} {size : Nat} {v : Value} {n : Nat} {xs : List Value} (h : w.ownsRow base e size v n xs) : n ≤ 9223372036854775807 := by
  rcases h.2 with ⟨_, rfl⟩ | ⟨g, cap, cur, rfl, _, _, h2, h3, _⟩
  · exact Nat.zero_le _
  · unfold maxLen at h3; omega
def MovesOut (T : List NodeT) (base : Nat) (a : Option Addr) (cap Z : Nat) (W : World) (f : Nat) (x : Value) (wr : World) : Prop :=
  ∃ i : Nat, x = .int .i64 i ∧ 1 ≤ i ∧ i ≤ T.length ∧ T.length ≤ i + f ∧ NodesIn (fun g => base ≤ g) wr (.slice a T.length cap) T ∧ Holds wr Z #[.slice a T.length cap] 27 ∧ Below W.heap.size W wr
def MovesIn (T : List NodeT) (base : Nat) (a : Option Addr) (cap Z : Nat) (W : World) (l : List (Int × Int)) (sa : Option Addr) (sc B : Nat) (f : Nat) (x : Value) (wr : World) : Prop :=
  ∃ k : Nat, x = .int .i64 k ∧ k ≤ l.length ∧ l.length ≤ k + f ∧ NodesIn (fun g => base ≤ g) wr (.slice a T.length cap) T ∧ Holds wr Z #[.slice a T.length cap] 27 ∧ wr.ownsRow B 37 2 (.slice sa l.length sc) l.length (pairCells l) ∧ Below W.heap.size W wr

set_option maxRecDepth 100000 in
set_option maxHeartbeats 4000000 in
theorem moves_walk (a : Option Addr) (len cap : Nat) (w : World) (hi : IntsIn w a len) (hlc : len ≤ cap) (hcap : cap ≤ maxLen) (hnil : a = none → len = 0 ∧ cap = 0) :
    Calls Try.prog 3 #[.slice a len cap] w fun e w' => e = .returned (.bool true) ∧ Below w.heap.size w w' := by
  go_enter Try.func3, Try.ntmps3
  go_wp2_with fail
  refine (mk_New a len cap _ hi hlc hcap hnil).mono ?_
  rintro e w1 ⟨tb, rfl, hT1, hb1⟩
  clear hi hnil
  have hB := hT1.1
  have htl := hT1.lt
  go_wp2_with fail
  refine (grow_Buses w.heap.size tb 7 _ (by exact hT1) (by omega) (by omega)).mono ?_
  rintro e w2 ⟨v, T, rfl, hR, hs, hl, hT2, hk2⟩
  obtain ⟨va, vc, rfl⟩ := hR.slice
  have hb2 : Below w.heap.size w w2 := hb1.trans (hk2.below (by omega) (fun i hi e => by omega))
  have hs2 := hb2.size
  have hR2 := hR.new ((Below.refl _ _).alloc (Nat.le_refl _) (.cells #[.slice va T.length vc] 27))
  have hN := hR2.in
  have hb3 := hb2.alloc hs2 (.cells #[.slice va T.length vc] 27)
  have hZ := Holds.new w2 #[.slice va T.length vc] 27
  have h0 := hs.1
  have hT8 : T.length ≤ 8 := by omega
  clear hR hR2 hb2 hb1 hk2 hT1 hT2 hl
  generalize w1.heap.size = base at *
  go_wp2_with fail
  refine (address_Check (fun g => base ≤ g) _ T _ (by exact hN)).mono ?_
  rintro e w3 ⟨rfl, hb4⟩
  have hN3 := hN.new hb4
  have hZ3 := hZ.keeps (Keeps.of_fresh hb4 (fun _ => False)) (fun e => e)
  have hb5 := hb3.trans (hb4.mono (by simp; omega))
  clear hN hZ hb3 hb4 hs2
  generalize w2.heap.size = Z at *
  by_cases hc : (aCheckT T).2 = 0
  · have HC := Lib.hid hc
    have hce : ((aCheckT T).2 != 0) = false := by simp [hc]
    obtain ⟨er, her⟩ : ∃ er, (aCheckT T).2 = er := ⟨_, rfl⟩
    rw [her] at hce ⊢
    clear her hc
    generalize (aCheckT T).1 = ci
    go_wp2_with fail
    go_loopg [7] T.length (fun f x wr => MovesOut T base va vc Z w f x wr)
    case atStart => exact ⟨1, rfl, by omega, by omega, by omega, hN3, hZ3, hb5⟩
    case round =>
      clear hN3 hZ3 hb5
      obtain ⟨i, rfl, hi1, hiT, hif, hNr, hZr, hbr⟩ := hrel
      have hX := hZr.cell 0
      by_cases hlt : i < T.length
      · have hlt' : (i : Int) < T.length := by omega
        have hreg := aRegions_in HC.out i hlt
        have htr := fun k hk => aTrans_in HC.out i k hlt hk
        have HTR := Lib.hid htr
        clear htr
        go_wp2_with fail
        refine (address_Regions (fun g => base ≤ g) _ T i _ (by exact hNr)).mono ?_
        rintro e w4 ⟨rv, rfl, hown, hb6⟩
        rw [hreg] at hown
        simp only [hreg] at hown ⊢
        clear hreg
        generalize (regionsT T i).1 = l at *
        obtain ⟨sa, sc, rfl⟩ := owns_slice hown
        have hll := owns_len hown
        have hN4 := hNr.new hb6
        have hZ4 := hZr.keeps (Keeps.of_fresh hb6 (fun _ => False)) (fun e => e)
        have hb7 := hbr.trans (hb6.mono hbr.size)
        clear hNr hZr hbr hb6 hX
        generalize wr.heap.size = BR at *
        obtain ⟨go, rfl⟩ : ∃ x : Nat, x = gk := ⟨_, rfl⟩
        go_wp2_with fail
        go_loopg [43] l.length (fun f x wr => MovesIn T base va vc Z w l sa sc BR f x wr)
        case atStart => exact ⟨0, rfl, by omega, by omega, hN4, hZ4, hown, hb7⟩
        case round =>
          clear hN4 hZ4 hown hb7
          obtain ⟨wrr, rfl⟩ : ∃ x : World, x = wr := ⟨_, rfl⟩
          obtain ⟨k, rfl, hk1, hkf, hNk, hZk, hok, hbk⟩ := hrel
          by_cases hk : k < l.length
          · have hk' : (k : Int) < l.length := by omega
            obtain ⟨gl, cl, hsl, q1, q2, q3, f0, f1⟩ := pair_cells_at hok k hk
            cases hsl
            have HTI := Lib.hid (HTR.out k hk)
            generalize l[k] = p at *
            obtain ⟨pb, ps⟩ := p
            simp only at f0 f1
            have hsr := hbk.size
            have hX := hZk.cell 0
            have hZl := hZk.lt
            go_wp2_with fail
            refine (address_Translate (fun g => base ≤ g) _ T i k _ (by exact hNk.new ((Below.refl _ _).alloc (Nat.le_refl _) _))).mono ?_
            rintro e w5 ⟨rfl, hb8⟩
            have hti := HTI.out
            rw [hti]
            have hQ1 := atRegion_err T i (pb, ps)
            have hQ2 := atRegion_size T i (pb, ps)
            have hQ3 := fun h => atRegion_top T i (pb, ps) h h0
            rw [parOf_at hlt] at hQ3
            clear hti HTI
            generalize atRegion T i (pb, ps) = Q at *
            obtain ⟨⟨qb, qs⟩, qe⟩ := Q
            simp only at hQ1 hQ2 hQ3 ⊢
            have hk7 := Keeps.of_fresh hb8 (fun _ => False)
            have hL := (Holds.new wrr #[.int .i64 pb, .int .i64 ps] 37).keeps hk7 (fun e => e)
            have l0 := hL.cell 0
            have l1 := hL.cell 1
            have ll := hL.lt
            have hkw : Keeps (fun _ => False) wrr w5 := ((Keeps.refl (fun _ => False) wrr).alloc _).trans hk7 (fun _ _ e => e)
            have hbw := (hbk.alloc hsr _).trans (hb8.mono (by simp; omega))
            have hN5 := hNk.keeps hkw (fun _ _ e => e)
            have hZ5 := hZk.keeps hkw (fun e => e)
            have ho5 := ownsRow_keeps hok hkw (fun _ _ e => e)
            have bx := hZ5.cell 0
            have bl := hZ5.lt
            obtain ⟨g, o, pa2, pc2, hva, hgl, c0, -⟩ := hN5.at i hlt
            subst hva
            have hfin : MovesIn T base (some ⟨g, o, none⟩) vc Z w l (some ⟨gl, 0, none⟩) sc BR (gk - 1) (.int .i64 ((k : Int) + 1)) (w5.alloc (.cells #[.int .i64 qb, .int .i64 qs] 37)) :=
              ⟨k + 1, by go_num, by omega, by omega, hN5.new ((Below.refl _ _).alloc (Nat.le_refl _) _), hZ5.alloc _, ho5.alloc _, hbw.alloc hbw.size _⟩
            have HF := Lib.hid hfin
            clear hfin hN5 hZ5 ho5 hbw hbk hNk hZk hok hkw hk7 hL
            by_cases he : qe = 0
            · have hqs := hQ2 he
              subst hqs he
              by_cases hp : T[i].parent = 0
              · have hq := hQ3 hp
                obtain rfl : qb = pb := by simpa using hq
                have hpz : (T[i].parent == 0) = true := by simp [hp]
                clear hQ1 hQ2 hQ3 hp hq
                go_wp2_with fail
                go_roundg (gk - 1)
                case measure => omega
                case rel => exact HF.out
              · have hpz : (T[i].parent == 0) = false := by simpa using hp
                clear hQ1 hQ2 hQ3 hp
                go_wp2_with fail
                go_roundg (gk - 1)
                case measure => omega
                case rel => exact HF.out
            · have hq := hQ1 he
              subst hq
              clear hQ1 hQ2 hQ3 he
              go_wp2_with fail
              go_roundg (gk - 1)
              case measure => omega
              case rel => exact HF.out
          · go_wp2_with fail
            go_roundg (T.length - i - 1)
            case measure => omega
            case rel => exact ⟨i + 1, by go_num, by omega, by omega, by omega, hNk, hZk, hbk⟩
      · go_wp2_with fail
        refine (law_awake _).mono ?_
        rintro e w7 ⟨rfl, hb12⟩
        go_wp2_with fail
        go_ret
        exact ⟨rfl, hbr.trans (hb12.mono hbr.size)⟩
  · have hce : ((aCheckT T).2 != 0) = true := by simpa using hc
    clear hc
    go_wp2_with fail
    refine (law_awake _).mono ?_
    rintro e w7 ⟨rfl, hb12⟩
    go_wp2_with fail
    go_ret
    exact ⟨rfl, hb5.trans (hb12.mono hb5.size)⟩
end Go.Proofs.Ytjfkjnakmmkkiaa
