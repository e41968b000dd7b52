/- The law AddressComposes: its walk. -/
import Derived.Test.YtjfkjnakmmkkiaaLawM
import Derived.Test.YtjfkjnakmmkkiaaTreN
import Derived.Deep.RegionWith
namespace Go.Proofs.Ytjfkjnakmmkkiaa
open Go.RowKit

theorem list_threeB {w : World} {B : Nat} (hB : w.heap.size = B) (x y z : Int) (t : TypeId) : ListAt (w.alloc (.cells #[.int .i64 x, .int .i64 y, .int .i64 z] t)).heap.size (w.alloc (.cells #[.int .i64 x, .int .i64 y, .int .i64 z] t)) (.slice (some ⟨B, 0, none⟩) 3 3) [x, y, z] := by
  subst hB; exact list_three w x y z t
theorem infoNode : (Try.prog.info? 42).map (fun i => (i.zero, i.size, i.bytes)) = some (some (.agg #[.int .i64 0, .string ⟨#[]⟩, .slice none 0 0]), 3, 48) := by kernel_rfl
theorem tComp_in {w : World} {B p1 p2 p3 : Nat} {t1 t2 t3 t4 : TypeId} {a b c k : Int}
    (h1 : Holds w p1 #[.string sRanges, .string (valT [a, b, 65536])] t1) (h2 : Holds w p2 #[.string sRanges, .string (valT [0, a, 8192])] t2) (h3 : Holds w p3 #[.string sReg, .string (valT [c, k])] t3)
    (hn : Holds w B #[.int .i64 (-1), .string ByteArray.empty, .slice none 0 0, .int .i64 0, .string sOuter, .slice (some ⟨p1, 0, none⟩) 1 1, .int .i64 1, .string sInner, .slice (some ⟨p2, 0, none⟩) 1 1, .int .i64 2, .string sDev, .slice (some ⟨p3, 0, none⟩) 1 1] t4) :
    NodesIn (fun _ => True) w (.slice (some ⟨B, 0, none⟩) 4 4) (tComp a b c k) := by
  have sz : ∀ l : List Int, l.length ≤ 3 → (valT l).size ≤ 1000 := by intro l h; rw [valT_size]; omega
  refine ⟨some ⟨B, 0, none⟩, 4, rfl, Nat.le_refl _, by omega, fun _ => ⟨B, 0, rfl, trivial, fun j hj => ?_⟩⟩
  match j, hj with
  | 0, _ => exact ⟨_, hn.cell 0, hn.cell 1, hn.cell 2, ⟨none, 0, rfl, Nat.le_refl _, by omega, fun h => absurd h (Nat.lt_irrefl 0)⟩, by show (0 : Nat) ≤ _; omega, by show _ ≤ (-1 : Int); omega, by show (-1 : Int) ≤ _; omega⟩
  | 1, _ => exact ⟨_, hn.cell 3, hn.cell 4, hn.cell 5, props_one h1 trivial (by decide) (sz _ (by simp)), by show (5 : Nat) ≤ _; omega, by show _ ≤ (0 : Int); omega, by show (0 : Int) ≤ _; omega⟩
  | 2, _ => exact ⟨_, hn.cell 6, hn.cell 7, hn.cell 8, props_one h2 trivial (by decide) (sz _ (by simp)), by show (5 : Nat) ≤ _; omega, by show _ ≤ (1 : Int); omega, by show (1 : Int) ≤ _; omega⟩
  | 3, _ => exact ⟨_, hn.cell 9, hn.cell 10, hn.cell 11, props_one h3 trivial (by decide) (sz _ (by simp)), by show (3 : Nat) ≤ _; omega, by show _ ≤ (2 : Int); omega, by show (2 : Int) ≤ _; omega⟩

theorem made_empty {W : World} {B base size : Nat} {E : TypeId} (hB : W.heap.size = B) (hb : base ≤ B) : (W.alloc (.cells #[] E)).ownsRow base E size (.slice (some ⟨B, 0, none⟩) 0 0) 0 [] := by
  subst hB; exact World.ownsRow_made W #[] 0 hb (by unfold maxLen; omega) (by simp)
/-- The tree in which the inner bus has become a device. -/
theorem comp_mid {w w6 w7 : World} {NB cap z Y : Nat} {a b c k : Int} {x0 x1 : Value} {p0 p1 p2 p3 : Value} (hb67 : Below w6.heap.size w6 w7) (hY : Holds w6 Y #[.slice (some ⟨NB, 0, none⟩) 4 cap] 27) (hR : Holds w6 z #[x0, x1] 37)
    (hown : w6.ownsRow z 42 3 (.slice (some ⟨NB, 0, none⟩) 4 cap) 4 (nodeCells (tComp a b c k) [p0, p1, p2, p3]))
    (hPP : ∀ k' (h : k' < 4) (h2 : k' < [p0, p1, p2, p3].length), PropsIn (fun g => g < z) w6 [p0, p1, p2, p3][k'] (tComp a b c k)[k'].props) (he : Below w.heap.size w w6) (hz : w.heap.size ≤ z) (hz6 : z ≤ w6.heap.size) (hNB : z ≤ NB) :
    Holds ((((w7.setCell ⟨NB, 6, none⟩ (.int .i64 1)).setCell ⟨NB, 7, none⟩ (.string sInner)).setCell ⟨NB, 8, none⟩ (.slice (some ⟨w7.heap.size, 0, none⟩) 1 1)).alloc (.cells #[.string sReg, .string (valT [c + a, k])] 48)) Y #[.slice (some ⟨NB, 0, none⟩) 4 cap] 27 ∧
    Holds ((((w7.setCell ⟨NB, 6, none⟩ (.int .i64 1)).setCell ⟨NB, 7, none⟩ (.string sInner)).setCell ⟨NB, 8, none⟩ (.slice (some ⟨w7.heap.size, 0, none⟩) 1 1)).alloc (.cells #[.string sReg, .string (valT [c + a, k])] 48)) z #[x0, x1] 37 ∧
    NodesIn (fun _ => True) ((((w7.setCell ⟨NB, 6, none⟩ (.int .i64 1)).setCell ⟨NB, 7, none⟩ (.string sInner)).setCell ⟨NB, 8, none⟩ (.slice (some ⟨w7.heap.size, 0, none⟩) 1 1)).alloc (.cells #[.string sReg, .string (valT [c + a, k])] 48)) (.slice (some ⟨NB, 0, none⟩) 4 cap) (tComp2 a b c k) ∧
    Below w.heap.size w ((((w7.setCell ⟨NB, 6, none⟩ (.int .i64 1)).setCell ⟨NB, 7, none⟩ (.string sInner)).setCell ⟨NB, 8, none⟩ (.slice (some ⟨w7.heap.size, 0, none⟩) 1 1)).alloc (.cells #[.string sReg, .string (valT [c + a, k])] 48)) := by
  have hnY : Y ≠ NB := fun e => owns_ne_holds hown hY (by decide) (by rw [e]; rfl)
  have hnR : z ≠ NB := fun e => owns_ne_holds hown hR (by decide) (by rw [e]; rfl)
  have hk7 := Keeps.of_fresh hb67 (fun _ => False)
  have hk : Keeps (fun i => i = NB) w7 ((((w7.setCell ⟨NB, 6, none⟩ (.int .i64 1)).setCell ⟨NB, 7, none⟩ (.string sInner)).setCell ⟨NB, 8, none⟩ (.slice (some ⟨w7.heap.size, 0, none⟩) 1 1)).alloc (.cells #[.string sReg, .string (valT [c + a, k])] 48)) :=
    ((((Keeps.refl (fun i => i = NB) w7).setCell (p := ⟨NB, 6, none⟩) (.inr rfl) _).setCell (p := ⟨NB, 7, none⟩) (.inr rfl) _).setCell (p := ⟨NB, 8, none⟩) (.inr rfl) _).alloc _
  have hs7 := hb67.size
  refine ⟨(hY.keeps hk7 (fun e => e)).keeps hk hnY, (hR.keeps hk7 (fun e => e)).keeps hk hnR, ?_, (he.trans (hb67.mono he.size)).trans (hk.below (Nat.le_trans he.size hs7) (by intro i hi e; omega))⟩
  have hown7 := ((((ownsRow_keeps hown hk7 (fun _ _ e => e)).stored 6 (.int .i64 1)).1.stored 7 (.string sInner)).1.stored 8 (.slice (some ⟨w7.heap.size, 0, none⟩) 1 1)).1.alloc (.cells #[.string sReg, .string (valT [c + a, k])] 48)
  have hp := fun k' h h2 => ((hPP k' h h2).keeps hk7 (fun _ _ e => e)).keeps hk (fun g hg e => by omega) |>.mono (fun _ _ => trivial)
  have hnew := props_one (R := fun _ => True) (Holds.newB (w := ((w7.setCell ⟨NB, 6, none⟩ (.int .i64 1)).setCell ⟨NB, 7, none⟩ (.string sInner)).setCell ⟨NB, 8, none⟩ (.slice (some ⟨w7.heap.size, 0, none⟩) 1 1)) (B := w7.heap.size) (by simp) #[.string sReg, .string (valT [c + a, k])] 48) trivial (by decide) (by rw [valT_size]; simp)
  refine nodes_row (T := tComp2 a b c k) (pvs := [p0, p1, .slice (some ⟨w7.heap.size, 0, none⟩) 1 1, p3]) hown7 rfl ?_ ?_ (fun _ _ => trivial)
  · intro j hj hj2
    match j, hj with
    | 0, _ => exact hp 0 (by omega) (by simp)
    | 1, _ => exact hp 1 (by omega) (by simp)
    | 2, _ => exact hnew
    | 3, _ => exact hp 3 (by omega) (by simp)
  · intro n hn
    simp [tComp2] at hn
    rcases hn with rfl | rfl | rfl | rfl <;> exact nodeOk_mk _ _ _ (by decide) (by decide) (by decide)
theorem list_twoD {w : World} {B : Nat} (hB : w.heap.size = B) (x y : Int) (t : TypeId) : ListAt (w.alloc (.cells #[.int .i64 x, .int .i64 y] t)).drew.heap.size (w.alloc (.cells #[.int .i64 x, .int .i64 y] t)).drew (.slice (some ⟨B, 0, none⟩) 2 2) [x, y] := list_twoB hB x y t
theorem bcell {W w1 : World} (hb : Below W.heap.size W w1) : (∀ b o, b < W.heap.size → w1.cell? ⟨b, o, none⟩ = W.cell? ⟨b, o, none⟩) ∧ (∀ b o, b < W.heap.size → w1.frozen? ⟨b, o, none⟩ = W.frozen? ⟨b, o, none⟩) :=
  ⟨fun b o h => hb.cell (p := ⟨b, o, none⟩) h, fun b o h => hb.frozen (p := ⟨b, o, none⟩) h⟩
theorem news_below {w w' : World} {g o B : Nat} {xs : List Value} (h : ∀ j u, xs[j]? = some u → w.cell? ((⟨g, o, none⟩ : Addr).add j) = some u) (hg : g < B) (k : Below B w w') :
    ∀ j u, xs[j]? = some u → w'.cell? ((⟨g, o, none⟩ : Addr).add j) = some u := by
  intro j u hu
  have hadd : (⟨g, o, none⟩ : Addr).add j = ⟨g, o + j, none⟩ := by unfold Addr.add; split <;> simp_all
  have := h j u hu
  rw [hadd] at this ⊢
  exact cell_new this hg k

set_option maxRecDepth 100000 in
set_option maxHeartbeats 4000000 in
theorem comp_walk (a b c k : Int) (w : World) (ha0 : 0 ≤ a) (ha1 : a ≤ 65535) (hb0 : 0 ≤ b) (hb1 : b ≤ 65535) (hc0 : 0 ≤ c) (hc1 : c ≤ 65535) (hk0 : 0 ≤ k) (hk1 : k ≤ 255) :
    Calls Try.prog 5 #[.int .u16 a, .int .u16 b, .int .u16 c, .int .u8 k] w fun e w' => e = .returned (.bool true) ∧ Below w.heap.size w w' := by
  have m1 : 0 ≤ k % 200 ∧ k % 200 ≤ 199 := by omega
  have m2 : 0 ≤ c % 4096 ∧ c % 4096 ≤ 4095 := by omega
  have q1 := Lib.hid (show ∀ x ∈ [a, b, 65536], 0 ≤ x ∧ x ≤ 4294967295 from by intro x hx; simp at hx; omega)
  have q2 := Lib.hid (show ∀ x ∈ [0, a, 8192], 0 ≤ x ∧ x ≤ 4294967295 from by intro x hx; simp at hx; omega)
  have q3 := Lib.hid (show ∀ x ∈ [c % 4096, k % 200], 0 ≤ x ∧ x ≤ 4294967295 from by intro x hx; simp at hx; omega)
  have q4 := Lib.hid (show ∀ x ∈ [c % 4096 + a, k % 200], 0 ≤ x ∧ x ≤ 4294967295 from by intro x hx; simp at hx; omega)
  have t1 := Lib.hid (tComp_trans (a := a) (b := b) (c := c % 4096) (k := k % 200) ha0 ha1 hb0 hb1 m2.1 m2.2 m1.1 m1.2)
  have t2 := Lib.hid (tComp2_trans (a := a) (b := b) (c := c % 4096) (k := k % 200) ha0 ha1 hb0 hb1 m2.1 m2.2 m1.1 m1.2)
  obtain ⟨m10, m11⟩ := m1
  obtain ⟨m20, m21⟩ := m2
  go_enter Try.func5, Try.ntmps5
  go_wp2_with fail
  refine (grow_Cells _ _ _ (list_three w a b 65536 _) (by exact q1.out) (by simp)).mono ?_
  rintro e w1 ⟨rfl, hd1⟩
  have he1 := ((Below.refl w.heap.size w).alloc (Nat.le_refl _) (.cells #[.int .i64 a, .int .i64 b, .int .i64 65536] 3)).trans (hd1.mono (by simp))
  clear hd1
  have hs1 := he1.size
  go_wp2_with fail
  refine (grow_Cells [0, a, 8192] _ _ (by exact list_threeB (by simp) 0 a 8192 _) (by exact q2.out) (by simp)).mono ?_
  rintro e w2 ⟨rfl, hd2⟩
  have hP1 := ((Holds.new w1 _ _).alloc _).keeps (Keeps.of_fresh hd2 (fun _ => False)) (fun e => e)
  have he2 := ((he1.alloc hs1 _).alloc (by simp; omega) _).trans (hd2.mono (by simp; omega))
  clear hd2
  have hs2 := he2.size
  go_wp2_with fail
  refine (grow_Cells [c % 4096, k % 200] _ _ (by exact list_twoB (by simp) (c % 4096) (k % 200) _) (by exact q3.out) (by simp)).mono ?_
  rintro e w3 ⟨rfl, hd3⟩
  have hP2 := ((Holds.new w2 _ _).alloc _).keeps (Keeps.of_fresh hd3 (fun _ => False)) (fun e => e)
  have hP3 := (hP1.alloc _).alloc _ |>.keeps (Keeps.of_fresh hd3 (fun _ => False)) (fun e => e)
  have he3 := ((he2.alloc hs2 _).alloc (by simp; omega) _).trans (hd3.mono (by simp; omega))
  clear hd3 hP1 he1 he2
  have hs3 := he3.size
  go_wp2_with fail
  refine (address_Translate (fun _ => True) _ (tComp a b (c % 4096) (k % 200)) 3 0 _ (by
    exact tComp_in (((hP3.alloc _).alloc _).alloc _) (((hP2.alloc _).alloc _).alloc _) (((Holds.new w3 _ _).alloc _).alloc _) ((Holds.newB (w := w3.alloc _) (B := w3.heap.size + 1) (by simp) _ _).alloc _))).mono ?_
  rintro e w4 ⟨rfl, hd4⟩
  have hT := NodesIn.new (tComp_in (((hP3.alloc _).alloc _).alloc _) (((hP2.alloc _).alloc _).alloc _) (((Holds.new w3 _ _).alloc _).alloc _) ((Holds.newB (w := w3.alloc _) (B := w3.heap.size + 1) (by simp) _ _).alloc _)) hd4
  have hX := (Holds.newB (w := ((w3.alloc _).alloc _)) (B := w3.heap.size + 1 + 1) (by simp) _ _).keeps (Keeps.of_fresh hd4 (fun _ => False)) (fun e => e)
  have he4 := (((he3.alloc hs3 _).alloc (by simp; omega) _).alloc (by simp; omega) _).trans (hd4.mono (by simp; omega))
  have hs34 := hd4.size
  simp only [World.size_alloc] at hs34
  have ht1 := t1.out
  simp only [ht1]
  clear ht1 hP2 hP3 hd4 he3
  have hs4 := he4.size
  generalize hNe : w3.heap.size + 1 = N at *
  have bx := hX.cell 0
  have blt := hX.lt
  obtain ⟨g, o, pvs, hae, hg, _, hpl, hpp, hok, hnews, hone⟩ := hT.row (show 0 < 4 by omega)
  cases hae
  obtain ⟨p0, p1, p2, p3, rfl⟩ : ∃ p0 p1 p2 p3, pvs = [p0, p1, p2, p3] := by
    match pvs, hpl with
    | [p0, p1, p2, p3], _ => exact ⟨p0, p1, p2, p3, rfl⟩
  have HPP := Lib.hid hpp; have HOK := Lib.hid hok; have HNW := Lib.hid hnews; have HON := Lib.hid hone
  clear hpp hok hnews hone hpl hT
  obtain ⟨i0, hi, hz0, hz1, hz2⟩ := info_parts infoNode
  go_wp2_with (at_builtin; go_loud (refine wpList_append_own _ rfl _ _ 25 rfl w4.heap.size 42 i0 (.agg #[.int .i64 0, .string ⟨#[]⟩, .slice none 0 0]) 3 48 Try.underlying25 hi hz0 hz1 hz2 rfl (by decide) (.slice (some ⟨w4.heap.size + 1 + 1, 0, none⟩) 0 0) 0 [] rfl (by exact made_empty (by simp) (by omega)) ⟨N, 0, none⟩ 4 4 (nodeCells (tComp a b (c % 4096) (k % 200)) [p0, p1, p2, p3]) rfl rfl ?c1 ?c2 ?c3 ?c4 ?c5 ?_))
  case c1 => exact news_below HNW.out hg ((((Below.refl _ _).alloc (Nat.le_refl _) _).alloc (by simp) _).alloc (by simp; omega) _)
  case c2 => exact HON.out
  case c3 => unfold maxLen; omega
  case c4 => omega
  case c5 => simp; omega
  intro v' w5 hown' hgrow _
  have hY := (Holds.newB (w := w4.alloc _) (B := w4.heap.size + 1) (by simp) #[.slice (some ⟨N, 0, none⟩) 4 4] 27).alloc (.cells #[] 42) |>.grown hgrow (fun e => by have : w4.heap.size + 1 + 1 = w4.heap.size + 1 := Option.some.inj e; omega)
  have hR := (((Holds.new w4 #[.int .i64 (c % 4096 + b), .int .i64 (k % 200)] 37).alloc (.cells #[.slice (some ⟨N, 0, none⟩) 4 4] 27)).alloc (.cells #[] 42)).grown hgrow (fun e => by have : w4.heap.size + 1 + 1 = w4.heap.size := Option.some.inj e; omega)
  have hb45 : Below w4.heap.size w4 w5 := ((((Below.refl w4.heap.size w4).alloc (Nat.le_refl _) (.cells #[.int .i64 (c % 4096 + b), .int .i64 (k % 200)] 37)).alloc (by simp) (.cells #[.slice (some ⟨N, 0, none⟩) 4 4] 27)).alloc (by simp; omega) (.cells #[] 42)).grown hgrow (by simp; omega) (fun g hg => by have : w4.heap.size + 1 + 1 = g := Option.some.inj hg; omega)
  have he5 := he4.trans (hb45.mono hs4)
  obtain ⟨NB, cap, hNB, rfl⟩ : ∃ NB cap, w4.heap.size ≤ NB ∧ v' = .slice (some ⟨NB, 0, none⟩) 4 cap := by
    rcases hown'.2 with ⟨_, h0⟩ | ⟨g, cp, cur, e, hb, _⟩
    · omega
    · exact ⟨g, cp, hb, by simpa using e⟩
  have hown5 : w5.ownsRow w4.heap.size 42 3 (.slice (some ⟨NB, 0, none⟩) 4 cap) 4 (nodeCells (tComp a b (c % 4096) (k % 200)) [p0, p1, p2, p3]) := by simpa using hown'
  have hgs := hgrow.size
  clear hgrow hown'
  have d0 := hY.cell 0
  have d1 := hY.free 0
  have d2 := hY.lt
  have hsz5 : w4.heap.size + 1 + 1 + 1 ≤ w5.heap.size := by have := hgs; simp at this; omega
  clear HNW HON HOK bx blt
  go_upto_region 8 with fail
  have hne := owns_ne_holds hown5 hY (by decide)
  have hk6 : Keeps (fun i => i = w4.heap.size + 1) w5 (w5.setCell ⟨w4.heap.size + 1, 0, none⟩ (.slice (some ⟨NB, 0, none⟩) 4 cap)) := (Keeps.refl (fun i => i = w4.heap.size + 1) w5).setCell (p := ⟨w4.heap.size + 1, 0, none⟩) (.inr rfl) _
  have hk46 : Keeps (fun i => w4.heap.size ≤ i) w4 (w5.setCell ⟨w4.heap.size + 1, 0, none⟩ (.slice (some ⟨NB, 0, none⟩) 4 cap)) := (Keeps.of_fresh hb45 (fun i => w4.heap.size ≤ i)).trans hk6 (fun i _ e => by omega)
  have hY6 := hY.set 0 (.slice (some ⟨NB, 0, none⟩) 4 cap)
  have hR6 := hR.keeps hk6 (by omega)
  have hX6 := hX.keeps hk46 (by omega)
  have hown6 := ownsRow_keeps hown5 hk6 (fun g e1 e2 => hne (by rw [e1, e2]))
  have he6 := he5.setCell (p := ⟨w4.heap.size + 1, 0, none⟩) (by simp; omega) (.slice (some ⟨NB, 0, none⟩) 4 cap)
  have hPP6 : ∀ k' (h : k' < 4) (h2 : k' < [p0, p1, p2, p3].length), PropsIn (fun g => g < w4.heap.size) (w5.setCell ⟨w4.heap.size + 1, 0, none⟩ (.slice (some ⟨NB, 0, none⟩) 4 cap)) [p0, p1, p2, p3][k'] (tComp a b (c % 4096) (k % 200))[k'].props := fun k' h h2 => (HPP.out k' h h2).bound.keeps hk46 (fun g hg e => by omega)
  clear hY hR hX hown5 HPP hk6 hk46 hb45 he5 d0 d1 d2
  have hz6 : w4.heap.size + 1 + 1 + 1 ≤ (w5.setCell ⟨w4.heap.size + 1, 0, none⟩ (.slice (some ⟨NB, 0, none⟩) 4 cap)).heap.size := by simpa using hsz5
  generalize w5.setCell ⟨w4.heap.size + 1, 0, none⟩ (.slice (some ⟨NB, 0, none⟩) 4 cap) = w6 at *
  clear hsz5
  have y0 : w6.cell? ⟨w4.heap.size + 1, 0, none⟩ = some (.slice (some ⟨NB, 0, none⟩) 4 cap) := hY6.cell 0
  have n6 : w6.cell? ⟨NB, 6, none⟩ = some (.int .i64 1) := hown6.cellAt 6 (by omega)
  have n7 : w6.cell? ⟨NB, 7, none⟩ = some (.string sInner) := hown6.cellAt 7 (by omega)
  have n8 : w6.cell? ⟨NB, 8, none⟩ = some p2 := hown6.cellAt 8 (by omega)
  have f6 := hown6.frozenAt 6
  have f7 := hown6.frozenAt 7
  have f8 := hown6.frozenAt 8
  have l6 : NB < w6.heap.size := (hown6.lt NB rfl).2
  have hYl : w4.heap.size + 1 < w6.heap.size := hY6.lt
  have hwr : IntKind.i64.wrap (c % 4096 + a) = c % 4096 + a := IntWalk.i64_in _ (by omega)
  go_cut [16] (fun y wx => y = .pointer (some ⟨w4.heap.size + 1, 0, none⟩) ∧ Holds wx (w4.heap.size + 1) #[.slice (some ⟨NB, 0, none⟩) 4 cap] 27 ∧ Holds wx w4.heap.size #[.int .i64 (c % 4096 + b), .int .i64 (k % 200)] 37 ∧
    NodesIn (fun _ => True) wx (.slice (some ⟨NB, 0, none⟩) 4 cap) (tComp2 a b (c % 4096) (k % 200)) ∧ Below w.heap.size w wx)
  case first =>
   go_region_with (go_at_call 20; go_loud (refine (grow_Cells [c % 4096 + a, k % 200] _ _ (by exact list_twoD rfl _ _ _) (by exact q4.out) (by simp)).mono ?_; rintro e w7 ⟨rfl, hd7⟩; have hb67 : Below w6.heap.size w6 w7 := ((Below.refl w6.heap.size w6).alloc (Nat.le_refl _) (.cells #[.int .i64 (c % 4096 + a), .int .i64 (k % 200)] 3)).drew.trans (hd7.mono (by simp)); have k6 := cell_new n6 l6 hb67; have k7 := cell_new n7 l6 hb67; have k8 := cell_new n8 l6 hb67; have ky := cell_new y0 hYl hb67; have g6 := (hb67.frozen (p := ⟨NB, 6, none⟩) l6).trans f6; have g7 := (hb67.frozen (p := ⟨NB, 7, none⟩) l6).trans f7; have g8 := (hb67.frozen (p := ⟨NB, 8, none⟩) l6).trans f8; have l7 := Nat.lt_of_lt_of_le l6 hb67.size; have ly := Nat.lt_of_lt_of_le hYl hb67.size))
   all_goals
    go_wp2_with fail
    go_meet
    exact ⟨rfl, comp_mid hb67 hY6 hR6 hown6 hPP6 he6 hs4 (by omega) hNB⟩
  case rest =>
    obtain ⟨rfl, hY8, hR8, hT8, he8⟩ := hcut
    have y8 := hY8.cell 0
    have ly8 := hY8.lt
    have ht2 := t2.out
    clear hYl hwr l6 f6 f7 f8 n6 n7 n8 y0 hY6 hR6 hX6 hown6 hPP6 he6 hz6 hne
    go_wp2_with fail
    refine (address_Translate (fun _ => True) _ (tComp2 a b (c % 4096) (k % 200)) 2 0 _ (by exact hT8)).mono ?_
    rintro e w8 ⟨rfl, hd8⟩
    simp only [ht2]
    clear ht2
    have hR9 := hR8.keeps (Keeps.of_fresh hd8 (fun _ => False)) (fun e => e)
    have r0 := hR9.cell 0
    have r1 := hR9.cell 1
    have rl := hR9.lt
    have he9 := he8.trans (hd8.mono he8.size)
    have hs9 := he9.size
    clear hd8 he8 hT8 hY8 hR8
    go_wp2_with (go_at_call 14; refine (law_awake _).mono ?_; rintro e w9 ⟨rfl, hd9⟩)
    go_ret
    exact ⟨rfl, (he9.alloc hs9 _).trans (hd9.mono (by simp; omega))⟩
end Go.Proofs.Ytjfkjnakmmkkiaa
