/- The law TokenNames: its walk. -/
import Derived.Test.YtdigoicdgeebhaaMakeB
import Derived.Test.YtdigoicdgeebhaaAnyO
import Derived.Test.YtdigoicdgeebhaaRefL
import Derived.Test.YtdigoicdgeebhaaLawO
namespace Go.Proofs.Ytdigoicdgeebhaa
open Go.RowKit

/-- A string of at most k bytes. -/
def StrK (k : Nat) (v : Value) : Prop := ∃ s : ByteArray, v = .string s ∧ s.size ≤ k
/-- A new block of strings, of at most 200 bytes each. -/
def TenAt (B tb : Nat) (v : Value) (w : World) : Prop :=
  ∃ (g : Nat) (cs : List ByteArray), v = .slice (some ⟨g, 0, none⟩) 10 10 ∧ cs.length = 10 ∧ (∀ s ∈ cs, s.size ≤ 200) ∧ Holds w g (cs.map Value.string).toArray 9 ∧ B ≤ g ∧ g ≠ tb
def OneAt (B tb : Nat) (b : Int) (v : Value) (w : World) : Prop :=
  ∃ g : Nat, v = .slice (some ⟨g, 0, none⟩) 1 1 ∧ Holds w g #[.int .u8 b] 5 ∧ B ≤ g ∧ g ≠ tb
def longS : ByteArray := ⟨#[97, 50, 51, 52, 53, 54, 55, 56, 57, 48, 49, 50, 51, 52, 53, 54, 55, 56, 57, 48, 49, 50, 51, 52, 53, 54, 55, 56, 57, 48, 49]⟩
/-- What is known of the value of each operation that has been carried out. -/
def NFact (B tb : Nat) (raw : ByteArray) (b : Int) (j : Nat) (v : Value) (w : World) : Prop :=
  if j = 0 then v = .string raw
  else if j = 1 ∨ j = 3 ∨ j = 5 ∨ j = 7 then v = .pointer (some ⟨tb, 0, none⟩)
  else if j = 2 ∨ j = 4 ∨ j = 6 ∨ j = 8 ∨ j = 18 ∨ j = 24 then StrK 200 v
  else if j = 9 ∨ j = 12 ∨ j = 21 then v = .int .u8 b
  else if j = 10 ∨ j = 13 ∨ j = 22 then OneAt B tb b v w
  else if j = 11 ∨ j = 14 ∨ j = 23 then StrK 1 v
  else if j = 15 then StrK 2 v
  else if j = 16 ∨ j = 17 ∨ j = 19 then v = .string longS
  else if j = 20 then StrK 30 v
  else if j = 25 then TenAt B tb v w
  else if j = 26 then v = .int .i64 10
  else v = .int .i64 0
theorem NFact.keeps {B tb : Nat} {raw : ByteArray} {b : Int} {j : Nat} {v : Value} {w w' : World} (h : NFact B tb raw b j v w) (k : Keeps (· = tb) w w') : NFact B tb raw b j v w' := by
  have h1 : OneAt B tb b v w → OneAt B tb b v w' := fun ⟨g, e, hH, hB, hn⟩ => ⟨g, e, hH.keeps k hn, hB, hn⟩
  have h2 : TenAt B tb v w → TenAt B tb v w' := fun ⟨g, cs, e, hl, hs, hH, hB, hn⟩ => ⟨g, cs, e, hl, hs, hH.keeps k hn, hB, hn⟩
  unfold NFact at *
  repeat' (split at h <;> rename_i hc <;> simp only [hc, if_true, if_false] <;> try exact h)
  · exact h1 h
  · exact h2 h
def upd (U : Nat → Value) (i : Nat) (v : Value) : Nat → Value := fun j => if j = i then v else U j
def NFrame (a : Option Addr) (len cap : Nat) (raw : ByteArray) (b : Int) (tb : Nat) (x12 x13 : Value) (U : Nat → Value) : Act :=
  ⟨#[.slice a len cap, .string raw, .int .u8 b, undef, undef, undef, .bool false, .pointer (some ⟨tb, 0, none⟩), .string longS, undef, undef, .string raw, x12, x13, undef, .slice a len cap, .pointer (some ⟨tb, 0, none⟩), U 0, U 1, U 2, U 3, U 4, U 5, U 6, U 7, U 8, U 9, U 10, U 11, U 12, U 13, U 14, U 15, U 16, U 17, U 18, U 19, U 20, U 21, U 22, U 23, U 24, U 25, U 26, U 27, undef, undef, undef, undef, undef, undef, undef, undef, undef, undef, undef, undef, undef, undef, undef, undef, undef], []⟩
def NInv (B tb : Nat) (a : Option Addr) (len cap : Nat) (raw : ByteArray) (b : Int) (x12 x13 : Value) (W : World) (l : Array Bool) (c : Act) (w : World) : Prop :=
  ∃ U : Nat → Value, c = NFrame a len cap raw b tb x12 x13 U ∧ (∀ j, l.getD j false = true → NFact B tb raw b j (U j) w) ∧ Tape B w tb ∧ Below B W w ∧ B ≤ w.heap.size ∧ l.size = 28
theorem getD_set (l : Array Bool) (i j : Nat) (h : (l.setIfInBounds i true).getD j false = true) : j = i ∨ l.getD j false = true := by
  by_cases e : i = j
  · exact .inl e.symm
  · right
    simpa [Array.getElem?_setIfInBounds_ne e] using h
theorem NInv.step {B tb : Nat} {a : Option Addr} {len cap : Nat} {raw : ByteArray} {b : Int} {x12 x13 : Value} {W w w' : World} {l : Array Bool} {U : Nat → Value}
    (hF : ∀ j, l.getD j false = true → NFact B tb raw b j (U j) w) (hT : Tape B w' tb) (hb : Below B W w') (hs : B ≤ w'.heap.size) (hl : l.size = 28) (k : Keeps (· = tb) w w') (i : Nat) (v : Value) (hv : NFact B tb raw b i v w')
    (c : Act) (hc : c = NFrame a len cap raw b tb x12 x13 (upd U i v)) : NInv B tb a len cap raw b x12 x13 W (l.setIfInBounds i true) c w' := by
  refine ⟨upd U i v, hc, fun j hj => ?_, hT, hb, hs, by simpa using hl⟩
  by_cases e : j = i
  · subst e; simpa [upd] using hv
  · rcases getD_set l i j hj with h | h
    · exact absurd h e
    · simpa [upd, e] using (hF j h).keeps k
theorem conv_at (w : World) (g : Nat) (v : Int) (h0 : 0 ≤ v) (h1 : v < 256) (hH : Holds w g #[.int .u8 v] 5) : (convert 46 9 (.slice (some ⟨g, 0, none⟩) 1 1)).run Try.prog w = .ok (.string ⟨#[v.toNat.toUInt8]⟩) w := by
  refine run_convert_bytes_back _ _ _ _ ⟨g, 0, none⟩ 1 [v.toNat.toUInt8] Try.underlying46 Try.underlying5 Try.underlying9 ?_
  intro j hj
  have hj0 : j = 0 := by simpa using hj
  subst hj0
  have := hH.cell 0
  simp only [List.getElem_cons_zero]
  rw [u8_back v h0 (by omega)]
  exact this

theorem ten_sizes (raw s2 s4 s6 s8 s11 s15 s18 s24 : ByteArray) (h0 : raw.size ≤ 200) (h2 : s2.size ≤ 200) (h4 : s4.size ≤ 200) (h6 : s6.size ≤ 200) (h8 : s8.size ≤ 200) (h11 : s11.size ≤ 1) (h15 : s15.size ≤ 2) (h18 : s18.size ≤ 200) (h24 : s24.size ≤ 200) :
    ∀ s ∈ [raw, s2, s4, s6, s8, s11, s15, longS, s18, s24], s.size ≤ 200 := by
  have hls : longS.size = 31 := rfl
  intro s hs
  simp only [List.mem_cons, List.not_mem_nil, or_false] at hs
  rcases hs with rfl | rfl | rfl | rfl | rfl | rfl | rfl | rfl | rfl | rfl <;> omega
theorem lName_size : ∀ s ∈ lName, s.size ≤ 20 := by decide
theorem lProperty_size : ∀ s ∈ lProperty, s.size ≤ 20 := by decide
set_option maxHeartbeats 4000000 in
set_option maxRecDepth 100000 in
theorem names_walk (a : Option Addr) (len cap : Nat) (raw : ByteArray) (b : Int) (w : World) (hi : IntsIn w a len) (hlc : len ≤ cap) (hcap : cap ≤ maxLen) (hnil : a = none → len = 0 ∧ cap = 0)
    (hs : raw.size ≤ maxLen) (hb0 : 0 ≤ b) (hb1 : b < 256) (h0 : Lay0 w) :
    Calls Try.prog 8 #[.slice a len cap, .string raw, .int .u8 b] w fun e w' => e = .returned (.bool true) ∧ Below w.heap.size w w' := by
  have hm := hs
  unfold maxLen at hs
  by_cases hlong : 200 < raw.size
  · go_enter Try.func8, Try.ntmps8
    go_wp2_with fail
    refine (law_awake _ h0).mono ?_
    rintro e w1 ⟨rfl, hb⟩
    go_wp2_with fail
    go_ret
    exact ⟨rfl, hb⟩
  · have hshort : raw.size ≤ 200 := by omega
    clear hlong
    go_enter Try.func8, Try.ntmps8
    go_wp2_with fail
    refine (mk_New a len cap _ hi hlc hcap hnil).mono ?_
    rintro e w1 ⟨tb, rfl, hT1, hb1'⟩
    go_wp2_with fail
    have hs1 := hb1'.size
    refine wp_region_any (by kernel_rfl) ?_
    refine wpAny_inv (NInv w.heap.size tb a len cap raw b (.int .i64 raw.size) (.bool (decide (200 < (raw.size : Int)))) w) (by kernel_rfl) ?hend ?hstep _ _ _ _ (by rfl) (by decide) ?start
    case start => exact ⟨fun _ => undef, rfl, fun j hj => absurd hj (by simp [Array.getElem?_replicate]; split <;> simp), hT1.keeps ((Keeps.refl (fun _ => False) w1).drew) (fun _ e => e.elim), hb1'.drew, hs1, by rfl⟩
    case hstep =>
      intro l c w hI i o ho hl hall K' hK'
      obtain ⟨U, rfl, hF, hT, hb, hs, hsz⟩ := hI
      have hi28 : i < 28 := (Array.getElem?_eq_some_iff.1 ho).1
      have hic : i = 0 ∨ i = 1 ∨ i = 2 ∨ i = 3 ∨ i = 4 ∨ i = 5 ∨ i = 6 ∨ i = 7 ∨ i = 8 ∨ i = 9 ∨ i = 10 ∨ i = 11 ∨ i = 12 ∨ i = 13 ∨ i = 14 ∨ i = 15 ∨ i = 16 ∨ i = 17 ∨ i = 18 ∨ i = 19 ∨ i = 20 ∨ i = 21 ∨ i = 22 ∨ i = 23 ∨ i = 24 ∨ i = 25 ∨ i = 26 ∨ i = 27 := by omega
      rcases hic with rfl | rfl | rfl | rfl | rfl | rfl | rfl | rfl | rfl | rfl | rfl | rfl | rfl | rfl | rfl | rfl | rfl | rfl | rfl | rfl | rfl | rfl | rfl | rfl | rfl | rfl | rfl | rfl
      · cases ho
        simp only [NFrame]
        go_simp
        exact hK' _ _ (NInv.step hF hT hb hs hsz (Keeps.refl _ _) 0 (.string raw) (by simp [NFact]) _ (by first | rfl | (simp [NFrame, upd, *]; done)))
      · cases ho
        simp only [NFrame]
        go_simp
        exact hK' _ _ (NInv.step hF hT hb hs hsz (Keeps.refl _ _) 1 (.pointer (some ⟨tb, 0, none⟩)) (by simp [NFact]) _ (by first | rfl | (simp [NFrame, upd, *]; done)))
      · cases ho
        have p1 := hall { on := 1, ground := .data } (by simp) (by rfl)
        have f1 := hF 1 p1; simp [NFact] at f1
        simp only [NFrame]
        go_simp
        refine (mk_Name _ _ _ hT).mono ?_
        rintro e w3 ⟨s, rfl, hsm, hT3, hK3⟩
        have hsz3 := lName_size s hsm
        have hs3 := hK3.size
        go_simp
        exact hK' _ _ (NInv.step hF hT3 (hb.trans (hK3.below hs (by intro i hi e; have := hT.1; omega))) (by omega) hsz hK3 2 (.string s) (by simp only [NFact]; simp; exact ⟨s, rfl, by omega⟩) _ (by first | rfl | (simp [NFrame, upd, *]; done)))
      · cases ho
        simp only [NFrame]
        go_simp
        exact hK' _ _ (NInv.step hF hT hb hs hsz (Keeps.refl _ _) 3 (.pointer (some ⟨tb, 0, none⟩)) (by simp [NFact]) _ (by first | rfl | (simp [NFrame, upd, *]; done)))
      · cases ho
        have p3 := hall { on := 3, ground := .data } (by simp) (by rfl)
        have f3 := hF 3 p3; simp [NFact] at f3
        simp only [NFrame]
        go_simp
        refine (mk_Property _ _ _ hT).mono ?_
        rintro e w3 ⟨s, rfl, hsm, hT3, hK3⟩
        have hsz3 := lProperty_size s hsm
        have hs3 := hK3.size
        go_simp
        exact hK' _ _ (NInv.step hF hT3 (hb.trans (hK3.below hs (by intro i hi e; have := hT.1; omega))) (by omega) hsz hK3 4 (.string s) (by simp only [NFact]; simp; exact ⟨s, rfl, by omega⟩) _ (by first | rfl | (simp [NFrame, upd, *]; done)))
      · cases ho
        simp only [NFrame]
        go_simp
        exact hK' _ _ (NInv.step hF hT hb hs hsz (Keeps.refl _ _) 5 (.pointer (some ⟨tb, 0, none⟩)) (by simp [NFact]) _ (by first | rfl | (simp [NFrame, upd, *]; done)))
      · cases ho
        have p5 := hall { on := 5, ground := .data } (by simp) (by rfl)
        have f5 := hF 5 p5; simp [NFact] at f5
        simp only [NFrame]
        go_simp
        refine (mk_Piece _ _ _ hT).mono ?_
        rintro e w3 ⟨s, rfl, hsm, hT3, hK3⟩
        have hsz3 := lPiece_size s hsm
        have hs3 := hK3.size
        go_simp
        exact hK' _ _ (NInv.step hF hT3 (hb.trans (hK3.below hs (by intro i hi e; have := hT.1; omega))) (by omega) hsz hK3 6 (.string s) (by simp only [NFact]; simp; exact ⟨s, rfl, by omega⟩) _ (by first | rfl | (simp [NFrame, upd, *]; done)))
      · cases ho
        simp only [NFrame]
        go_simp
        exact hK' _ _ (NInv.step hF hT hb hs hsz (Keeps.refl _ _) 7 (.pointer (some ⟨tb, 0, none⟩)) (by simp [NFact]) _ (by first | rfl | (simp [NFrame, upd, *]; done)))
      · cases ho
        have p7 := hall { on := 7, ground := .data } (by simp) (by rfl)
        have f7 := hF 7 p7; simp [NFact] at f7
        simp only [NFrame]
        go_simp
        refine (mk_Odd _ _ _ hT).mono ?_
        rintro e w3 ⟨s, rfl, hsm, hT3, hK3⟩
        have hsz3 := lOdd_size s hsm
        have hs3 := hK3.size
        go_simp
        exact hK' _ _ (NInv.step hF hT3 (hb.trans (hK3.below hs (by intro i hi e; have := hT.1; omega))) (by omega) hsz hK3 8 (.string s) (by simp only [NFact]; simp; exact ⟨s, rfl, by omega⟩) _ (by first | rfl | (simp [NFrame, upd, *]; done)))
      · cases ho
        simp only [NFrame]
        go_simp
        exact hK' _ _ (NInv.step hF hT hb hs hsz (Keeps.refl _ _) 9 (.int .u8 b) (by simp [NFact]) _ (by first | rfl | (simp [NFrame, upd, *]; done)))
      · cases ho
        have p9 := hall { on := 9, ground := .data } (by simp) (by rfl)
        have f9 := hF 9 p9; simp [NFact] at f9
        simp only [NFrame]
        go_simp
        exact hK' _ _ (NInv.step hF (hT.keeps ((Keeps.refl (fun _ => False) w).alloc _) (fun _ e => e.elim)) (hb.alloc hs _) (by simp; omega) hsz ((Keeps.refl _ _).alloc _) 10 (.slice (some ⟨w.heap.size, 0, none⟩) 1 1) (by simp only [NFact]; simp; exact ⟨w.heap.size, rfl, Holds.new w _ _, hs, by have := hT.lt; omega⟩) _ (by first | rfl | (simp [NFrame, upd, *]; done)))
      · cases ho
        have p10 := hall { on := 10, ground := .data } (by simp) (by rfl)
        have f10 := hF 10 p10; simp [NFact] at f10
        obtain ⟨g, fe, hH, hBg, hne⟩ := f10
        have hcv := conv_at w g b hb0 hb1 hH
        simp only [NFrame]
        go_simp
        exact hK' _ _ (NInv.step hF hT hb hs hsz (Keeps.refl _ _) 11 (.string ⟨#[b.toNat.toUInt8]⟩) (by simp only [NFact]; simp; exact ⟨_, rfl, Nat.le_refl _⟩) _ (by first | rfl | (simp [NFrame, upd, *]; done)))
      · cases ho
        simp only [NFrame]
        go_simp
        exact hK' _ _ (NInv.step hF hT hb hs hsz (Keeps.refl _ _) 12 (.int .u8 b) (by simp [NFact]) _ (by first | rfl | (simp [NFrame, upd, *]; done)))
      · cases ho
        have p12 := hall { on := 12, ground := .data } (by simp) (by rfl)
        have f12 := hF 12 p12; simp [NFact] at f12
        simp only [NFrame]
        go_simp
        exact hK' _ _ (NInv.step hF (hT.keeps ((Keeps.refl (fun _ => False) w).alloc _) (fun _ e => e.elim)) (hb.alloc hs _) (by simp; omega) hsz ((Keeps.refl _ _).alloc _) 13 (.slice (some ⟨w.heap.size, 0, none⟩) 1 1) (by simp only [NFact]; simp; exact ⟨w.heap.size, rfl, Holds.new w _ _, hs, by have := hT.lt; omega⟩) _ (by first | rfl | (simp [NFrame, upd, *]; done)))
      · cases ho
        have p13 := hall { on := 13, ground := .data } (by simp) (by rfl)
        have f13 := hF 13 p13; simp [NFact] at f13
        obtain ⟨g, fe, hH, hBg, hne⟩ := f13
        have hcv := conv_at w g b hb0 hb1 hH
        simp only [NFrame]
        go_simp
        exact hK' _ _ (NInv.step hF hT hb hs hsz (Keeps.refl _ _) 14 (.string ⟨#[b.toNat.toUInt8]⟩) (by simp only [NFact]; simp; exact ⟨_, rfl, Nat.le_refl _⟩) _ (by first | rfl | (simp [NFrame, upd, *]; done)))
      · cases ho
        have p14 := hall { on := 14, ground := .data } (by simp) (by rfl)
        have f14 := hF 14 p14; simp [NFact] at f14
        obtain ⟨s, fe, hss⟩ := f14
        obtain ⟨s2, ha, has, _⟩ := adds_ex ⟨#[97]⟩ s (by rw [show (⟨#[97]⟩ : ByteArray).size = 1 from rfl]; omega)
        rw [show (⟨#[97]⟩ : ByteArray).size = 1 from rfl] at has
        unfold Adds at ha
        simp only [NFrame]
        go_simp
        exact hK' _ _ (NInv.step hF hT hb hs hsz (Keeps.refl _ _) 15 (.string s2) (by simp only [NFact]; simp; exact ⟨_, rfl, by omega⟩) _ (by first | rfl | (simp [NFrame, upd, *]; done)))
      · cases ho
        simp only [NFrame]
        go_simp
        exact hK' _ _ (NInv.step hF hT hb hs hsz (Keeps.refl _ _) 16 (.string longS) (by simp [NFact, longS]) _ (by first | rfl | (simp [NFrame, upd, *]; done)))
      · cases ho
        simp only [NFrame]
        go_simp
        exact hK' _ _ (NInv.step hF hT hb hs hsz (Keeps.refl _ _) 17 (.string longS) (by simp [NFact, longS]) _ (by first | rfl | (simp [NFrame, upd, *]; done)))
      · cases ho
        have p17 := hall { on := 17, ground := .data } (by simp) (by rfl)
        have f17 := hF 17 p17; simp [NFact] at f17
        obtain ⟨s2, ha, has, _⟩ := adds_ex longS ⟨#[50]⟩ (by decide)
        rw [show (⟨#[50]⟩ : ByteArray).size = 1 from rfl, show longS.size = 31 from rfl] at has
        unfold Adds at ha
        simp only [NFrame]
        go_simp
        exact hK' _ _ (NInv.step hF hT hb hs hsz (Keeps.refl _ _) 18 (.string s2) (by simp only [NFact]; simp; exact ⟨_, rfl, by omega⟩) _ (by first | rfl | (simp [NFrame, upd, *]; done)))
      · cases ho
        simp only [NFrame]
        go_simp
        exact hK' _ _ (NInv.step hF hT hb hs hsz (Keeps.refl _ _) 19 (.string longS) (by simp [NFact, longS]) _ (by first | rfl | (simp [NFrame, upd, *]; done)))
      · cases ho
        have p19 := hall { on := 19, ground := .data } (by simp) (by rfl)
        have f19 := hF 19 p19; simp [NFact] at f19
        have hls : longS.size = 31 := rfl
        simp only [NFrame]
        go_simp
        exact hK' _ _ (NInv.step hF hT hb hs hsz (Keeps.refl _ _) 20 (.string (longS.extract 0 30)) (by simp only [NFact]; simp; exact ⟨_, rfl, by simp; omega⟩) _ (by first | rfl | (simp [NFrame, upd, *]; done)))
      · cases ho
        simp only [NFrame]
        go_simp
        exact hK' _ _ (NInv.step hF hT hb hs hsz (Keeps.refl _ _) 21 (.int .u8 b) (by simp [NFact]) _ (by first | rfl | (simp [NFrame, upd, *]; done)))
      · cases ho
        have p21 := hall { on := 21, ground := .data } (by simp) (by rfl)
        have f21 := hF 21 p21; simp [NFact] at f21
        simp only [NFrame]
        go_simp
        exact hK' _ _ (NInv.step hF (hT.keeps ((Keeps.refl (fun _ => False) w).alloc _) (fun _ e => e.elim)) (hb.alloc hs _) (by simp; omega) hsz ((Keeps.refl _ _).alloc _) 22 (.slice (some ⟨w.heap.size, 0, none⟩) 1 1) (by simp only [NFact]; simp; exact ⟨w.heap.size, rfl, Holds.new w _ _, hs, by have := hT.lt; omega⟩) _ (by first | rfl | (simp [NFrame, upd, *]; done)))
      · cases ho
        have p22 := hall { on := 22, ground := .data } (by simp) (by rfl)
        have f22 := hF 22 p22; simp [NFact] at f22
        obtain ⟨g, fe, hH, hBg, hne⟩ := f22
        have hcv := conv_at w g b hb0 hb1 hH
        simp only [NFrame]
        go_simp
        exact hK' _ _ (NInv.step hF hT hb hs hsz (Keeps.refl _ _) 23 (.string ⟨#[b.toNat.toUInt8]⟩) (by simp only [NFact]; simp; exact ⟨_, rfl, Nat.le_refl _⟩) _ (by first | rfl | (simp [NFrame, upd, *]; done)))
      · cases ho
        have p20 := hall { on := 20, ground := .data } (by simp) (by rfl)
        have p23 := hall { on := 23, ground := .data } (by simp) (by rfl)
        have f20 := hF 20 p20; simp [NFact] at f20
        have f23 := hF 23 p23; simp [NFact] at f23
        obtain ⟨s, fe, hss⟩ := f20
        obtain ⟨s', fe', hss'⟩ := f23
        obtain ⟨s2, ha, has, _⟩ := adds_ex s s' (by omega)
        unfold Adds at ha
        simp only [NFrame]
        go_simp
        exact hK' _ _ (NInv.step hF hT hb hs hsz (Keeps.refl _ _) 24 (.string s2) (by simp only [NFact]; simp; exact ⟨_, rfl, by omega⟩) _ (by first | rfl | (simp [NFrame, upd, *]; done)))
      · cases ho
        have p0 := hall { on := 0, ground := .data } (by simp) (by rfl)
        have f0 := hF 0 p0; simp [NFact] at f0
        have p2 := hall { on := 2, ground := .data } (by simp) (by rfl)
        have f2 := hF 2 p2; simp [NFact] at f2
        have p4 := hall { on := 4, ground := .data } (by simp) (by rfl)
        have f4 := hF 4 p4; simp [NFact] at f4
        have p6 := hall { on := 6, ground := .data } (by simp) (by rfl)
        have f6 := hF 6 p6; simp [NFact] at f6
        have p8 := hall { on := 8, ground := .data } (by simp) (by rfl)
        have f8 := hF 8 p8; simp [NFact] at f8
        have p11 := hall { on := 11, ground := .data } (by simp) (by rfl)
        have f11 := hF 11 p11; simp [NFact] at f11
        have p15 := hall { on := 15, ground := .data } (by simp) (by rfl)
        have f15 := hF 15 p15; simp [NFact] at f15
        have p16 := hall { on := 16, ground := .data } (by simp) (by rfl)
        have f16 := hF 16 p16; simp [NFact] at f16
        have p18 := hall { on := 18, ground := .data } (by simp) (by rfl)
        have f18 := hF 18 p18; simp [NFact] at f18
        have p24 := hall { on := 24, ground := .data } (by simp) (by rfl)
        have f24 := hF 24 p24; simp [NFact] at f24
        obtain ⟨s2, e2, z2⟩ := f2
        obtain ⟨s4, e4, z4⟩ := f4
        obtain ⟨s6, e6, z6⟩ := f6
        obtain ⟨s8, e8, z8⟩ := f8
        obtain ⟨s11, e11, z11⟩ := f11
        obtain ⟨s15, e15, z15⟩ := f15
        obtain ⟨s18, e18, z18⟩ := f18
        obtain ⟨s24, e24, z24⟩ := f24
        simp only [NFrame]
        go_simp
        exact hK' _ _ (NInv.step hF (hT.keeps ((Keeps.refl (fun _ => False) w).alloc _) (fun _ e => e.elim)) (hb.alloc hs _) (by simp; omega) hsz ((Keeps.refl _ _).alloc _) 25 (.slice (some ⟨w.heap.size, 0, none⟩) 10 10) (by simp only [NFact]; simp; exact ⟨w.heap.size, [raw, s2, s4, s6, s8, s11, s15, longS, s18, s24], rfl, rfl, ten_sizes raw s2 s4 s6 s8 s11 s15 s18 s24 hshort z2 z4 z6 z8 z11 z15 z18 z24, Holds.new w _ _, hs, by have := hT.lt; omega⟩) _ (by first | rfl | (simp [NFrame, upd, *]; done)))
      · cases ho
        have p25 := hall { on := 25, ground := .data } (by simp) (by rfl)
        have f25 := hF 25 p25; simp [NFact] at f25
        obtain ⟨g, cs, f25, _⟩ := f25
        simp only [NFrame]
        go_simp
        exact hK' _ _ (NInv.step hF hT hb hs hsz (Keeps.refl _ _) 26 (.int .i64 10) (by simp [NFact]) _ (by first | rfl | (simp [NFrame, upd, *]; done)))
      · cases ho
        simp only [NFrame]
        go_simp
        exact hK' _ _ (NInv.step hF hT hb hs hsz (Keeps.refl _ _) 27 (.int .i64 0) (by simp [NFact]) _ (by first | rfl | (simp [NFrame, upd, *]; done)))
    case hend =>
      rintro l c w2 ⟨U, rfl, hF, hT, hb, hs, hsz⟩ hall
      have f25 := hF 25 (hall 25 (by decide)); simp [NFact] at f25
      have f26 := hF 26 (hall 26 (by decide)); simp [NFact] at f26
      have f27 := hF 27 (hall 27 (by decide)); simp [NFact] at f27
      obtain ⟨g, cs, f25, hcl, hcs, hG, hBg, hne⟩ := f25
      have HG := Lib.hid hG; clear hG
      have HCS := Lib.hid hcs; clear hcs
      have HCL := Lib.hid hcl; clear hcl
      clear hF hall hT1 hb1'
      simp only [NFrame, f25, f26, f27]
      clear f25 f26 f27
      have HS2 := Lib.hid hs; clear hs
      have HB2 := Lib.hid hb; clear hb
      have hgl := HG.out.lt
      go_wp2_with fail
      go_loopg [44] 10 (fun f z wr => ∃ k : Nat, k ≤ 10 ∧ 10 ≤ k + f ∧ z = .int .i64 k ∧ ∃ n, wr = w2.drewN n)
      case atStart => exact ⟨0, by omega, by omega, rfl, 0, rfl⟩
      case round =>
        obtain ⟨k, hk, hf, rfl, n, rfl⟩ := hrel
        by_cases hlt : k < 10
        · obtain ⟨s, hs1, hs2⟩ := pick_one cs k (by have := HCL.out; omega)
          have hss := HCS.out s hs2
          have hc : w2.cell? ⟨g, k, none⟩ = some (.string s) := (HG.out.cell k).trans (by simp [hs1])
          have n1 := fun wx => token_Name s wx (by unfold maxLen; omega)
          have n2 := fun wx => ref_Name s wx (by unfold maxLen; omega)
          have n3 := fun wx => token_Label s wx (by unfold maxLen; omega)
          have n4 := fun wx => ref_Label s wx (by unfold maxLen; omega)
          generalize nameT s.data.toList = y at n1 n2
          generalize labelT s.data.toList = z at n3 n4
          have N1 := Lib.hid n1; clear n1
          have N2 := Lib.hid n2; clear n2
          have N3 := Lib.hid n3; clear n3
          have N4 := Lib.hid n4; clear n4
          clear hs1 hs2
          go_wp2_with fail
          refine (N1.out _).mono ?_
          rintro e w3 ⟨rfl, rfl⟩
          go_wp2_with fail
          refine (N2.out _).mono ?_
          rintro e w3 ⟨rfl, rfl⟩
          go_wp2_with fail
          refine (N3.out _).mono ?_
          rintro e w3 ⟨rfl, rfl⟩
          go_wp2_with fail
          refine (N4.out _).mono ?_
          rintro e w3 ⟨rfl, rfl⟩
          go_wp2_with fail
          go_roundg (gk - 1)
          case measure => omega
          case rel => exact ⟨k + 1, by omega, by omega, by go_num, _, rfl⟩
        · have hbn : Below w.heap.size w (w2.drewN n) := below_drewN HB2.out n
          go_wp2_with fail
          refine (law_awake _ (by exact h0.keeps (Keeps.of_fresh hbn (fun _ => False)) (fun e => e))).mono ?_
          rintro e w8 ⟨rfl, hb⟩
          go_wp2_with fail
          go_ret
          exact ⟨rfl, hbn.trans (hb.mono hbn.size)⟩
end Go.Proofs.Ytdigoicdgeebhaa
