/- The law TreeLocal: region 5 (printed by gloc.py). | The law TreeLocal: region 16 (printed by gloc2.py), and what Set leaves as it is (plain). | The law TreeLocal: region 13 at another node (printed by gloc3.py). | The law TreeLocal: its walk. -/
import Derived.Test.YtjfkjnakmmkkiaaGreatZ16
import Derived.Test.YtjfkjnakmmkkiaaGreatZ21
import Derived.Test.YtjfkjnakmmkkiaaGreatZ11
import Derived.Test.YtjfkjnakmmkkiaaGreatZ23
import Derived.Test.YtjfkjnakmmkkiaaGreatZ14
import Derived.Deep.LoopGhost

namespace Go.Proofs.YtjfkjnakmmkkiaaGreat
open Go.RowKit

noncomputable def locOps (n : Nat) : Array Oper := (regOps (Tryz.f5.body.getD .skip) n).getD #[]
theorem loc5 : inRow2 .any (locOps 5) = true := by kernel_rfl
theorem loc5a : apartB (locOps 5) = true := by kernel_rfl
theorem loc5n : (locOps 5).size = 14 := by kernel_rfl
def SetTo (T : List NodeT) (k : Nat) (nm : ByteArray) (T' : List NodeT) (er : Int) : Prop := ∃ va, er = (setT T (pathS T k) nm va).2 ∧ T' = (setT T (pathS T k) nm va).1
def LcF (b base : Nat) (v : Value) (T : List NodeT) (k : Nat) (nm : ByteArray) (sv : Value) (er : Int) (T' : List NodeT) (N : Nat) (j : Nat) : Value → World → Prop := match j with
  | 0 => fun u _ => u = .agg #[v]
  | 1 => fun u _ => u = .agg #[v]
  | 2 => fun u _ => u = .int .i64 k
  | 3 => fun u _ => u = .string (pathS T k)
  | 4 => fun u _ => u = .string nm
  | 5 => fun u _ => u = .pointer (some ⟨b, 0, none⟩)
  | 6 => fun u _ => ∃ s : ByteArray, u = .string s ∧ s.size ≤ 100
  | 7 => fun u w => u = .tuple #[.agg #[sv], .int .i64 er] ∧ TreeRow w base sv T' ∧ SetTo T k nm T' er
  | 8 => fun u w => u = .tuple #[.agg #[sv], .int .i64 er] ∧ TreeRow w base sv T' ∧ SetTo T k nm T' er
  | 9 => fun u _ => u = .agg #[sv]
  | 10 => fun u _ => u = .int .i64 er
  | 11 => fun u w => u = .pointer (some ⟨N, 0, none⟩) ∧ ∃ x, Holds w N #[x] 25
  | 12 => fun _ w => Holds w N #[sv] 25
  | 13 => fun u _ => u = .int .i64 er
  | _ => fun _ _ => True
section
variable {b base k : Nat} {v sv : Value} {T T' : List NodeT} {nm : ByteArray} {er : Int} {N : Nat} {w w' : World}
theorem LcF.keeps {B : Nat} {j : Nat} {u : Value} (h : LcF b base v T k nm sv er T' N j u w) (hT : Tape B w b) (kk : Keeps (· = b) w w') (hN : N ≠ b) : LcF b base v T k nm sv er T' N j u w' := by
  unfold LcF at *
  split at h
  all_goals first
    | exact h
    | exact ⟨h.1, h.2.1.tape hT kk, h.2.2⟩
    | (obtain ⟨e, x, hH⟩ := h; exact ⟨e, x, hH.keeps kk hN⟩)
    | exact Holds.keeps h kk hN
theorem LcF.store {j : Nat} {u x : Value} (h : LcF b base v T k nm sv er T' N j u w) (hH : Holds w N #[x] 25) : LcF b base v T k nm sv er T' N j u (w.setCell ⟨N, 0, none⟩ sv) := by
  unfold LcF at *
  split at h
  all_goals first
    | exact h
    | exact ⟨h.1, h.2.1.set hH (by decide) (by decide) 0 sv, h.2.2⟩
    | exact ⟨h.1, _, hH.set 0 sv⟩
    | exact hH.set 0 sv
theorem LcF.ghost {j : Nat} {u : Value} {sv2 : Value} {er2 : Int} {T2 : List NodeT} (h : LcF b base v T k nm sv er T' N j u w) (h7 : j ≠ 7) (h8 : j ≠ 8) (h9 : j ≠ 9) (h10 : j ≠ 10) (h12 : j ≠ 12) (h13 : j ≠ 13) : LcF b base v T k nm sv2 er2 T2 N j u w := by
  unfold LcF at *
  split at h
  all_goals first
    | exact h
    | exact absurd rfl h7
    | exact absurd rfl h8
    | exact absurd rfl h9
    | exact absurd rfl h10
    | exact absurd rfl h12
    | exact absurd rfl h13
theorem LcF.ghostN {j : Nat} {u : Value} {N2 : Nat} (h : LcF b base v T k nm sv er T' N j u w) (h11 : j ≠ 11) (h12 : j ≠ 12) : LcF b base v T k nm sv er T' N2 j u w := by
  unfold LcF at *
  split at h
  all_goals first
    | exact h
    | exact absurd rfl h11
    | exact absurd rfl h12
end

set_option maxHeartbeats 4000000 in
set_option maxRecDepth 100000 in
theorem loc_region5 {Q : Exit → Act → World → Prop} (B b base Z : Nat) (v : Value) (T : List NodeT) (k : Nat) (nm : ByteArray) (W w : World) (A : Act) (hsz : A.tmps.size = 96) (hZW : Z < W.heap.size) (hbW : b < W.heap.size) (hBW : B ≤ W.heap.size) (hbase : base ≤ W.heap.size) (hZb : Z ≠ b) (hnm : nm.size ≤ 9223372036854775807) (hpq : pathQ T (k : Int) = pathS T k)
    (a3 : A.tmps.getD 3 undef = .pointer (some ⟨b, 0, none⟩)) (a4 : A.tmps.getD 4 undef = .pointer (some ⟨Z, 0, none⟩)) (a5 : A.tmps.getD 5 undef = .int .i64 k) (a6 : A.tmps.getD 6 undef = .string nm) (hS : GsS B b base Z v T W w)
    (hQ : ∀ c w' sv er T' N, SameBut (locOps 5) A c → GsS B b base Z v T W w' → c.tmps.getD 7 undef = .pointer (some ⟨N, 0, none⟩) → Holds w' N #[sv] 25 → c.tmps.getD 8 undef = .int .i64 er → TreeRow w' base sv T' → SetTo T k nm T' er → W.heap.size ≤ N → Q .normal c w') :
    wpAny Tryz.prog .any (locOps 5) Q (locOps 5).size (Array.replicate (locOps 5).size false) A w := by
  refine wpAny_inv2 (fun l c wx => ∃ sv er T' N, RInv (locOps 5) A (LcF b base v T k nm sv er T' N) (GsS B b base Z v T W) l c wx ∧ W.heap.size ≤ N) loc5 ?hend ?hstep _ _ _ _ (by simp) (by simp) ⟨.slice none 0 0, 0, [], W.heap.size, RInv.start hS, Nat.le_refl _⟩
  case hend =>
    rintro l c wx ⟨sv, er, T', N, hI, hNq⟩ hl
    have hh : ∀ k, k < 14 → l.getD k false = true := fun k hk => hl k (by rw [loc5n]; exact hk)
    obtain ⟨e8, hr8, hs8⟩ : c.tmps.getD 23 undef = .tuple #[.agg #[sv], .int .i64 er] ∧ TreeRow wx base sv T' ∧ SetTo T k nm T' er := hI.fact 8 23 rfl (hh 8 (by decide))
    have e11 : c.tmps.getD 7 undef = .pointer (some ⟨N, 0, none⟩) ∧ ∃ x, Holds wx N #[x] 25 := hI.fact 11 7 rfl (hh 11 (by decide))
    have h12 : Holds wx N #[sv] 25 := hI.2.2.2 12 (by rw [loc5n]; decide) (hh 12 (by decide))
    have e13 : c.tmps.getD 8 undef = .int .i64 er := hI.fact 13 8 rfl (hh 13 (by decide))
    exact hQ c wx sv er T' N hI.1 hI.2.1 e11.1 h12 e13 hr8 hs8 hNq
  intro l c wx hI i' op ho hl hall K' hK'
  obtain ⟨sv, er, T', N, hI, hNq⟩ := hI
  have hNb : N ≠ b := by omega
  have hi13 : i' < 14 := by rw [← loc5n]; exact (Array.getElem?_eq_some_iff.1 ho).1
  simp only [locOps, regOps, Tryz.f5, Option.getD_some, reduceIte, Nat.reduceEqDiff] at ho
  have HS := Lib.hid hI.2.1
  have s3 := (hI.slot 3 (by kernel_rfl)).trans a3
  have s4 := (hI.slot 4 (by kernel_rfl)).trans a4
  have s5 := (hI.slot 5 (by kernel_rfl)).trans a5
  have s6 := (hI.slot 6 (by kernel_rfl)).trans a6
  simp only [Array.getD_eq_getD_getElem?] at s3 s4 s5 s6
  have hic : i' = 0 ∨ i' = 1 ∨ i' = 2 ∨ i' = 3 ∨ i' = 4 ∨ i' = 5 ∨ i' = 6 ∨ i' = 7 ∨ i' = 8 ∨ i' = 9 ∨ i' = 10 ∨ i' = 11 ∨ i' = 12 ∨ i' = 13 := by omega
  rcases hic with rfl | rfl | rfl | rfl | rfl | rfl | rfl | rfl | rfl | rfl | rfl | rfl | rfl | rfl
  all_goals cases ho
  · have hX := HS.out.2.2.1.cell 0
    go_simp
    exact hK' _ _ ⟨sv, er, T', N, hI.step loc5a 0 24 rfl (by rw [hsz]; decide) _ _ rfl hall HS.out (fun _ _ h => h) rfl, hNq⟩
  · have hX := HS.out.2.2.1.cell 0
    go_simp
    exact hK' _ _ ⟨sv, er, T', N, hI.step loc5a 1 25 rfl (by rw [hsz]; decide) _ _ rfl hall HS.out (fun _ _ h => h) rfl, hNq⟩
  · go_simp
    exact hK' _ _ ⟨sv, er, T', N, hI.step loc5a 2 26 rfl (by rw [hsz]; decide) _ _ rfl hall HS.out (fun _ _ h => h) rfl, hNq⟩
  · have e1 : c.tmps.getD 25 undef = .agg #[v] := hI.fact 1 25 rfl (listed hall 1 (by kernel_rfl))
    simp only [Array.getD_eq_getD_getElem?] at e1
    have e2 : c.tmps.getD 26 undef = .int .i64 k := hI.fact 2 26 rfl (listed hall 2 (by kernel_rfl))
    simp only [Array.getD_eq_getD_getElem?] at e2
    go_simp
    refine (ref3_Path _ _ T k wx HS.out.2.1.in).mono ?_
    rintro e w2 ⟨rfl, hb2⟩
    rw [hpq]
    go_simp
    have k2 := Keeps.of_fresh hb2 (fun i => i = b)
    have hS2 := HS.out.call hZb k2 (HS.out.1.new hb2)
    exact hK' _ _ ⟨sv, er, T', N, hI.step loc5a 3 27 rfl (by rw [hsz]; decide) _ _ rfl hall hS2 (fun _ _ h => LcF.keeps h HS.out.1 k2 hNb) rfl, hNq⟩
  · go_simp
    exact hK' _ _ ⟨sv, er, T', N, hI.step loc5a 4 28 rfl (by rw [hsz]; decide) _ _ rfl hall HS.out (fun _ _ h => h) rfl, hNq⟩
  · go_simp
    exact hK' _ _ ⟨sv, er, T', N, hI.step loc5a 5 29 rfl (by rw [hsz]; decide) _ _ rfl hall HS.out (fun _ _ h => h) rfl, hNq⟩
  · have e5 : c.tmps.getD 29 undef = .pointer (some ⟨b, 0, none⟩) := hI.fact 5 29 rfl (listed hall 5 (by kernel_rfl))
    simp only [Array.getD_eq_getD_getElem?] at e5
    go_simp
    refine (grow_Value B b wx HS.out.1).mono ?_
    rintro e w2 ⟨s, rfl, hs, ht2, k2⟩
    go_simp
    have hS2 := HS.out.call hZb k2 ht2
    exact hK' _ _ ⟨sv, er, T', N, hI.step loc5a 6 30 rfl (by rw [hsz]; decide) _ _ rfl hall hS2 (fun _ _ h => LcF.keeps h HS.out.1 k2 hNb) ⟨s, rfl, hs⟩, hNq⟩
  · have e0 : c.tmps.getD 24 undef = .agg #[v] := hI.fact 0 24 rfl (listed hall 0 (by kernel_rfl))
    simp only [Array.getD_eq_getD_getElem?] at e0
    have e3 : c.tmps.getD 27 undef = .string (pathS T k) := hI.fact 3 27 rfl (listed hall 3 (by kernel_rfl))
    simp only [Array.getD_eq_getD_getElem?] at e3
    have e4 : c.tmps.getD 28 undef = .string nm := hI.fact 4 28 rfl (listed hall 4 (by kernel_rfl))
    simp only [Array.getD_eq_getD_getElem?] at e4
    obtain ⟨vl, e6, hvl⟩ : ∃ s : ByteArray, c.tmps.getD 30 undef = .string s ∧ s.size ≤ 100 := hI.fact 6 30 rfl (listed hall 6 (by kernel_rfl))
    simp only [Array.getD_eq_getD_getElem?] at e6
    go_simp
    refine (tree_Set _ _ T (pathS T k) nm vl wx HS.out.2.1.in hnm (by omega)).mono ?_
    rintro e w2 ⟨v2, rfl, hr2, hb2⟩
    go_simp
    have k2 := Keeps.of_fresh hb2 (fun i => i = b)
    have hS2 := HS.out.call hZb k2 (HS.out.1.new hb2)
    have hr3 := hr2.base (Nat.le_trans hbase HS.out.2.2.2.size)
    have hst : SetTo T k nm (setT T (pathS T k) nm vl).1 (setT T (pathS T k) nm vl).2 := ⟨vl, rfl, rfl⟩
    have u8 := hI.2.2.1.2.unlisted hl (j := 8) (by kernel_rfl)
    have u9 := hI.2.2.1.2.unlisted u8 (j := 9) (by kernel_rfl)
    have u10 := hI.2.2.1.2.unlisted u8 (j := 10) (by kernel_rfl)
    have u12 := hI.2.2.1.2.unlisted u9 (j := 12) (by kernel_rfl)
    have u13 := hI.2.2.1.2.unlisted u10 (j := 13) (by kernel_rfl)
    have hJ := hI.other (F' := LcF b base v T k nm v2 (setT T (pathS T k) nm vl).2 (setT T (pathS T k) nm vl).1 N) (fun j hj u hF => hF.ghost (yes_no hj hl) (yes_no hj u8) (yes_no hj u9) (yes_no hj u10) (yes_no hj u12) (yes_no hj u13))
    exact hK' _ _ ⟨v2, (setT T (pathS T k) nm vl).2, (setT T (pathS T k) nm vl).1, N, hJ.step loc5a 7 31 rfl (by rw [hsz]; decide) _ _ rfl hall hS2 (fun _ _ h => LcF.keeps h HS.out.1 k2 hNb) ⟨rfl, hr3, hst⟩, hNq⟩
  · obtain ⟨e8, hr8, hs8⟩ : c.tmps.getD 31 undef = .tuple #[.agg #[sv], .int .i64 er] ∧ TreeRow wx base sv T' ∧ SetTo T k nm T' er := hI.fact 7 31 rfl (listed hall 7 (by kernel_rfl))
    simp only [Array.getD_eq_getD_getElem?] at e8
    go_simp
    exact hK' _ _ ⟨sv, er, T', N, hI.step loc5a 8 23 rfl (by rw [hsz]; decide) _ _ rfl hall HS.out (fun _ _ h => h) ⟨rfl, hr8, hs8⟩, hNq⟩
  · obtain ⟨e9, hr9, hs9⟩ : c.tmps.getD 23 undef = .tuple #[.agg #[sv], .int .i64 er] ∧ TreeRow wx base sv T' ∧ SetTo T k nm T' er := hI.fact 8 23 rfl (listed hall 8 (by kernel_rfl))
    simp only [Array.getD_eq_getD_getElem?] at e9
    go_simp
    exact hK' _ _ ⟨sv, er, T', N, hI.step loc5a 9 32 rfl (by rw [hsz]; decide) _ _ rfl hall HS.out (fun _ _ h => h) rfl, hNq⟩
  · obtain ⟨e9, hr9, hs9⟩ : c.tmps.getD 23 undef = .tuple #[.agg #[sv], .int .i64 er] ∧ TreeRow wx base sv T' ∧ SetTo T k nm T' er := hI.fact 8 23 rfl (listed hall 8 (by kernel_rfl))
    simp only [Array.getD_eq_getD_getElem?] at e9
    go_simp
    exact hK' _ _ ⟨sv, er, T', N, hI.step loc5a 10 33 rfl (by rw [hsz]; decide) _ _ rfl hall HS.out (fun _ _ h => h) rfl, hNq⟩
  · go_simp
    have hb2 : Below wx.heap.size wx (wx.alloc (.cells #[.slice none 0 0] 25)) := (Below.refl _ _).alloc (Nat.le_refl _) _
    have k2 := Keeps.of_fresh hb2 (fun i => i = b)
    have hS2 := HS.out.call hZb k2 (HS.out.1.new hb2)
    have u12 := hI.2.2.1.2.unlisted hl (j := 12) (by kernel_rfl)
    have hNn : wx.heap.size ≠ b := by have := HS.out.1.lt; omega
    have hNm : W.heap.size ≤ wx.heap.size := HS.out.2.2.2.size
    have hJ := hI.other (F' := LcF b base v T k nm sv er T' wx.heap.size) (fun j hj u hF => hF.ghostN (yes_no hj hl) (yes_no hj u12))
    exact hK' _ _ ⟨sv, er, T', wx.heap.size, hJ.step loc5a 11 7 rfl (by rw [hsz]; decide) _ _ rfl hall hS2 (fun _ _ h => LcF.keeps h HS.out.1 k2 hNn) ⟨rfl, _, Holds.new _ _ _⟩, hNm⟩
  · obtain ⟨e12, x, hHN⟩ : c.tmps.getD 7 undef = .pointer (some ⟨N, 0, none⟩) ∧ ∃ x, Holds wx N #[x] 25 := hI.fact 11 7 rfl (listed hall 11 (by kernel_rfl))
    simp only [Array.getD_eq_getD_getElem?] at e12
    have e9 : c.tmps.getD 32 undef = .agg #[sv] := hI.fact 9 32 rfl (listed hall 9 (by kernel_rfl))
    simp only [Array.getD_eq_getD_getElem?] at e9
    have u0 := hHN.cell 0
    have u1 := hHN.free 0
    obtain ⟨e8, hr8, hs8⟩ : c.tmps.getD 23 undef = .tuple #[.agg #[sv], .int .i64 er] ∧ TreeRow wx base sv T' ∧ SetTo T k nm T' er := hI.fact 8 23 rfl (by
      have p9 := listed hall 9 (by kernel_rfl)
      cases p8 : l.getD 8 false with
      | true => rfl
      | false => rw [hI.2.2.1.2.unlisted p8 (j := 9) (by kernel_rfl)] at p9; cases p9)
    obtain ⟨a2, c2, rfl⟩ := hr8.slice
    have n0 : wx.cell? ⟨N, 0, none⟩ = some x := u0
    have n1 : wx.frozen? ⟨N, 0, none⟩ = false := u1
    go_simp
    exact hK' _ _ ⟨.slice a2 T'.length c2, er, T', N, hI.stepN 12 rfl _ rfl hall (HS.out.store hHN hNq hZW hbW hBW) (fun _ _ h => h.store hHN) (hHN.set 0 _), hNq⟩
  · have e10 : c.tmps.getD 33 undef = .int .i64 er := hI.fact 10 33 rfl (listed hall 10 (by kernel_rfl))
    simp only [Array.getD_eq_getD_getElem?] at e10
    go_simp
    exact hK' _ _ ⟨sv, er, T', N, hI.step loc5a 13 8 rfl (by rw [hsz]; decide) _ _ rfl hall HS.out (fun _ _ h => h) rfl, hNq⟩
end Go.Proofs.YtjfkjnakmmkkiaaGreat

namespace Go.Proofs.YtjfkjnakmmkkiaaGreat
open Go.RowKit

theorem without_put (ps : List PropT) (nm va : ByteArray) : withoutT (putT ps ⟨nm, va⟩) nm = withoutT ps nm := by
  have h1 : eqS nm nm = true := (eqS_iff _ _).2 rfl
  unfold withoutT putT
  rw [List.filter_append, List.filter_cons, if_neg (by simp [h1])]
  show _ ++ List.filter _ (ps.drop (restT ps nm)) = _
  have h2 : ps.filter (fun p => !eqS p.name nm) = (ps.take (lowT ps nm)).filter (fun p => !eqS p.name nm) ++ (ps.drop (lowT ps nm)).filter (fun p => !eqS p.name nm) := by rw [← List.filter_append, List.take_append_drop]
  rw [h2]
  congr 1
  unfold restT
  cases hh : hasT ps nm with
  | false => simp
  | true =>
    have hlt : lowT ps nm < ps.length := by
      by_cases e : lowT ps nm < ps.length
      · exact e
      · rw [has_none (by omega)] at hh; cases hh
    have he : eqS ps[lowT ps nm].name nm = true := by rw [has_at hlt] at hh; exact hh
    have h3 : (ps.drop (lowT ps nm)).filter (fun p => !eqS p.name nm) = (ps.drop (lowT ps nm + 1)).filter (fun p => !eqS p.name nm) := by
      rw [List.drop_eq_getElem_cons hlt, List.filter_cons, if_neg (by simp [he])]
    rw [h3]; simp
theorem begin_at {T : List NodeT} (hc : checkT T = 0) {k : Nat} (hk : k < T.length) : rBeginT T (pathS T k) = ((k : Int), 0) := by
  have hp := check_parts hc
  have hf : findT T (pathS T k) = (k : Int) := by
    refine findT_yes hk (eqS_path.2 rfl) fun q hq => ?_
    cases e : eqS (pathS T q) (pathS T k) with
    | false => rfl
    | true => have := path_inj hp.2.1 (dis_check hc) (show q < T.length by omega) hk (eqS_path.1 e); omega
  unfold rBeginT
  rw [if_neg (by rw [hc]; simp), hf, if_pos (by omega)]
theorem set_to {T : List NodeT} (hc : checkT T = 0) {k : Nat} (hk : k < T.length) {nm : ByteArray} (hp : propB nm = true) {T' : List NodeT} {er : Int} (h : SetTo T k nm T' er) : (er = 3 ∧ T' = []) ∨ (er = 0 ∧ ∃ va, T' = T.set k ⟨T[k].parent, T[k].name, putT T[k].props ⟨nm, va⟩⟩) := by
  obtain ⟨va, h1, h2⟩ := h
  rw [setT_ok (begin_at hc hk), if_neg (by rw [hp]; decide)] at h1 h2
  split at h1
  · rename_i hx; rw [if_pos hx] at h2; exact .inl ⟨h1, h2⟩
  · rename_i hx; rw [if_neg hx] at h2
    refine .inr ⟨h1, va, ?_⟩
    rw [h2]; unfold setAt; rw [List.getElem?_eq_getElem hk]; rfl
theorem lProperty_ok : ∀ s ∈ lProperty, propB s = true := by decide
noncomputable def loc16O : Array Oper := (regOps (Tryz.f5.body.getD .skip) 16).getD #[]
theorem loc16 : inRow2 .any loc16O = true := by kernel_rfl
theorem loc16a : apartB loc16O = true := by kernel_rfl
theorem loc16n : loc16O.size = 18 := by kernel_rfl
def LwF (Z Y g o n cap g2 o2 cap2 k H : Nat) (pa : Option Addr) (pc : Nat) (pa2 : Option Addr) (pc2 : Nat) (ps1 ps2 : List PropT) (nm : ByteArray) (j : Nat) : Value → World → Prop := match j with
  | 0 => fun u _ => u = .pointer (some ⟨Z, 0, none⟩)
  | 1 => fun u _ => u = .slice (some ⟨g, o, none⟩) n cap
  | 2 => fun u _ => u = .int .i64 k
  | 3 => fun u _ => u = .pointer (some ⟨g, o + k * 3, none⟩)
  | 4 => fun u _ => u = .pointer (some ⟨g, o + k * 3 + 2, none⟩)
  | 5 => fun u _ => u = .slice pa ps1.length pc
  | 6 => fun u _ => u = .string nm
  | 7 => fun u w => PropRow w H u (withoutT ps1 nm)
  | 8 => fun u _ => u = .pointer (some ⟨Y, 0, none⟩)
  | 9 => fun u _ => u = .slice (some ⟨g2, o2, none⟩) n cap2
  | 10 => fun u _ => u = .int .i64 k
  | 11 => fun u _ => u = .pointer (some ⟨g2, o2 + k * 3, none⟩)
  | 12 => fun u _ => u = .pointer (some ⟨g2, o2 + k * 3 + 2, none⟩)
  | 13 => fun u _ => u = .slice pa2 ps2.length pc2
  | 14 => fun u _ => u = .string nm
  | 15 => fun u w => PropRow w H u (withoutT ps2 nm)
  | 16 => fun u w => PropRow w H u (withoutT ps1 nm)
  | 17 => fun u w => PropRow w H u (withoutT ps2 nm)
  | _ => fun _ _ => True
theorem LwF.new {Z Y g o n cap g2 o2 cap2 k H : Nat} {pa : Option Addr} {pc : Nat} {pa2 : Option Addr} {pc2 : Nat} {ps1 ps2 : List PropT} {nm : ByteArray} {w w' : World} {j : Nat} {u : Value} (h : LwF Z Y g o n cap g2 o2 cap2 k H pa pc pa2 pc2 ps1 ps2 nm j u w) (kb : Below w.heap.size w w') : LwF Z Y g o n cap g2 o2 cap2 k H pa pc pa2 pc2 ps1 ps2 nm j u w' := by
  unfold LwF at *
  split at h
  all_goals first
    | exact h
    | exact PropRow.new h kb

set_option maxHeartbeats 4000000 in
set_option maxRecDepth 100000 in
theorem loc_region16 {Q : Exit → Act → World → Prop} (Z Y g o n cap g2 o2 cap2 k H : Nat) (pa : Option Addr) (pc : Nat) (pa2 : Option Addr) (pc2 : Nat) (ps1 ps2 : List PropT) (nm : ByteArray) (W w : World) (A : Act) (hsz : A.tmps.size = 96) (hkn : k < n) (hgl : g < W.heap.size) (hgl2 : g2 < W.heap.size) (hH : H ≤ W.heap.size) (hl1 : ps1.length ≤ 1000) (hl2 : ps2.length ≤ 1000) (R1 R2 : Nat → Prop)
    (hZW : Holds W Z #[.slice (some ⟨g, o, none⟩) n cap] 25) (hYW : Holds W Y #[.slice (some ⟨g2, o2, none⟩) n cap2] 25) (q1 : W.cell? ⟨g, o + k * 3 + 2, none⟩ = some (.slice pa ps1.length pc)) (q2 : W.cell? ⟨g2, o2 + k * 3 + 2, none⟩ = some (.slice pa2 ps2.length pc2))
    (hP1 : Hid (PropsIn R1 W (.slice pa ps1.length pc) ps1)) (hP2 : Hid (PropsIn R2 W (.slice pa2 ps2.length pc2) ps2))
    (a4 : A.tmps.getD 4 undef = .pointer (some ⟨Z, 0, none⟩)) (a7 : A.tmps.getD 7 undef = .pointer (some ⟨Y, 0, none⟩)) (a5 : A.tmps.getD 5 undef = .int .i64 k) (a6 : A.tmps.getD 6 undef = .string nm)
    (hS : Below W.heap.size W w) (hQ : ∀ c w', SameBut loc16O A c → Below W.heap.size W w' → PropRow w' H (c.tmps.getD 10 undef) (withoutT ps1 nm) → PropRow w' H (c.tmps.getD 11 undef) (withoutT ps2 nm) → Q .normal c w') :
    wpAny Tryz.prog .any loc16O Q loc16O.size (Array.replicate loc16O.size false) A w := by
  refine wpAny_inv2 (fun l c wx => RInv loc16O A (LwF Z Y g o n cap g2 o2 cap2 k H pa pc pa2 pc2 ps1 ps2 nm) (fun wx => Below W.heap.size W wx) l c wx) loc16 (fun l c wx hI hl => hQ c wx hI.1 hI.2.1 (hI.fact 16 10 rfl (hl 16 (by rw [loc16n]; decide))) (hI.fact 17 11 rfl (hl 17 (by rw [loc16n]; decide)))) ?hstep _ _ _ _ (by simp) (by simp) (RInv.start hS)
  intro l c wx hI i' op ho hl hall K' hK'
  have hi13 : i' < 18 := by rw [← loc16n]; exact (Array.getElem?_eq_some_iff.1 ho).1
  simp only [loc16O, regOps, Tryz.f5, Option.getD_some, reduceIte, Nat.reduceEqDiff] at ho
  have hS := hI.2.1
  have hii : (k : Int) < n := by omega
  have hii0 : (0 : Int) ≤ k := by omega
  have s4 := (hI.slot 4 (by kernel_rfl)).trans a4
  have s7 := (hI.slot 7 (by kernel_rfl)).trans a7
  have s5 := (hI.slot 5 (by kernel_rfl)).trans a5
  have s6 := (hI.slot 6 (by kernel_rfl)).trans a6
  simp only [Array.getD_eq_getD_getElem?] at s4 s7 s5 s6
  have hic : i' = 0 ∨ i' = 1 ∨ i' = 2 ∨ i' = 3 ∨ i' = 4 ∨ i' = 5 ∨ i' = 6 ∨ i' = 7 ∨ i' = 8 ∨ i' = 9 ∨ i' = 10 ∨ i' = 11 ∨ i' = 12 ∨ i' = 13 ∨ i' = 14 ∨ i' = 15 ∨ i' = 16 ∨ i' = 17 := by omega
  rcases hic with rfl | rfl | rfl | rfl | rfl | rfl | rfl | rfl | rfl | rfl | rfl | rfl | rfl | rfl | rfl | rfl | rfl | rfl
  all_goals cases ho
  · go_simp
    exact hK' _ _ (hI.step loc16a 0 72 rfl (by rw [hsz]; decide) _ _ rfl hall hS (fun _ _ h => h) rfl)
  · have e0 : c.tmps.getD 72 undef = .pointer (some ⟨Z, 0, none⟩) := hI.fact 0 72 rfl (listed hall 0 (by kernel_rfl))
    simp only [Array.getD_eq_getD_getElem?] at e0
    have hX := (hZW.keeps (Keeps.of_fresh hS (fun _ => False)) (fun e => e)).cell 0
    go_simp
    exact hK' _ _ (hI.step loc16a 1 73 rfl (by rw [hsz]; decide) _ _ rfl hall hS (fun _ _ h => h) rfl)
  · go_simp
    exact hK' _ _ (hI.step loc16a 2 74 rfl (by rw [hsz]; decide) _ _ rfl hall hS (fun _ _ h => h) rfl)
  · have e1 : c.tmps.getD 73 undef = .slice (some ⟨g, o, none⟩) n cap := hI.fact 1 73 rfl (listed hall 1 (by kernel_rfl))
    simp only [Array.getD_eq_getD_getElem?] at e1
    have e2 : c.tmps.getD 74 undef = .int .i64 k := hI.fact 2 74 rfl (listed hall 2 (by kernel_rfl))
    simp only [Array.getD_eq_getD_getElem?] at e2
    go_simp
    exact hK' _ _ (hI.step loc16a 3 75 rfl (by rw [hsz]; decide) _ _ rfl hall hS (fun _ _ h => h) rfl)
  · have e3 : c.tmps.getD 75 undef = .pointer (some ⟨g, o + k * 3, none⟩) := hI.fact 3 75 rfl (listed hall 3 (by kernel_rfl))
    simp only [Array.getD_eq_getD_getElem?] at e3
    go_simp
    exact hK' _ _ (hI.step loc16a 4 76 rfl (by rw [hsz]; decide) _ _ rfl hall hS (fun _ _ h => h) rfl)
  · have e4 : c.tmps.getD 76 undef = .pointer (some ⟨g, o + k * 3 + 2, none⟩) := hI.fact 4 76 rfl (listed hall 4 (by kernel_rfl))
    simp only [Array.getD_eq_getD_getElem?] at e4
    have hX := (hS.cell (p := ⟨g, o + k * 3 + 2, none⟩) hgl).trans q1
    go_simp
    exact hK' _ _ (hI.step loc16a 5 77 rfl (by rw [hsz]; decide) _ _ rfl hall hS (fun _ _ h => h) rfl)
  · go_simp
    exact hK' _ _ (hI.step loc16a 6 78 rfl (by rw [hsz]; decide) _ _ rfl hall hS (fun _ _ h => h) rfl)
  · have e5 : c.tmps.getD 77 undef = .slice pa ps1.length pc := hI.fact 5 77 rfl (listed hall 5 (by kernel_rfl))
    simp only [Array.getD_eq_getD_getElem?] at e5
    have e6 : c.tmps.getD 78 undef = .string nm := hI.fact 6 78 rfl (listed hall 6 (by kernel_rfl))
    simp only [Array.getD_eq_getD_getElem?] at e6
    go_simp
    refine (ref3_Without _ (.slice pa ps1.length pc) ps1 nm wx (hP1.out.new hS) hl1).mono ?_
    rintro e w2 ⟨u, rfl, hr, hb2⟩
    go_simp
    have hS2 : Below W.heap.size W w2 := hS.trans (hb2.mono hS.size)
    exact hK' _ _ (hI.step loc16a 7 79 rfl (by rw [hsz]; decide) _ _ rfl hall hS2 (fun _ _ h => LwF.new h hb2) (hr.base (Nat.le_trans hH hS.size)))
  · go_simp
    exact hK' _ _ (hI.step loc16a 8 80 rfl (by rw [hsz]; decide) _ _ rfl hall hS (fun _ _ h => h) rfl)
  · have e8 : c.tmps.getD 80 undef = .pointer (some ⟨Y, 0, none⟩) := hI.fact 8 80 rfl (listed hall 8 (by kernel_rfl))
    simp only [Array.getD_eq_getD_getElem?] at e8
    have hX := (hYW.keeps (Keeps.of_fresh hS (fun _ => False)) (fun e => e)).cell 0
    go_simp
    exact hK' _ _ (hI.step loc16a 9 81 rfl (by rw [hsz]; decide) _ _ rfl hall hS (fun _ _ h => h) rfl)
  · go_simp
    exact hK' _ _ (hI.step loc16a 10 82 rfl (by rw [hsz]; decide) _ _ rfl hall hS (fun _ _ h => h) rfl)
  · have e9 : c.tmps.getD 81 undef = .slice (some ⟨g2, o2, none⟩) n cap2 := hI.fact 9 81 rfl (listed hall 9 (by kernel_rfl))
    simp only [Array.getD_eq_getD_getElem?] at e9
    have e10 : c.tmps.getD 82 undef = .int .i64 k := hI.fact 10 82 rfl (listed hall 10 (by kernel_rfl))
    simp only [Array.getD_eq_getD_getElem?] at e10
    go_simp
    exact hK' _ _ (hI.step loc16a 11 83 rfl (by rw [hsz]; decide) _ _ rfl hall hS (fun _ _ h => h) rfl)
  · have e11 : c.tmps.getD 83 undef = .pointer (some ⟨g2, o2 + k * 3, none⟩) := hI.fact 11 83 rfl (listed hall 11 (by kernel_rfl))
    simp only [Array.getD_eq_getD_getElem?] at e11
    go_simp
    exact hK' _ _ (hI.step loc16a 12 84 rfl (by rw [hsz]; decide) _ _ rfl hall hS (fun _ _ h => h) rfl)
  · have e12 : c.tmps.getD 84 undef = .pointer (some ⟨g2, o2 + k * 3 + 2, none⟩) := hI.fact 12 84 rfl (listed hall 12 (by kernel_rfl))
    simp only [Array.getD_eq_getD_getElem?] at e12
    have hX := (hS.cell (p := ⟨g2, o2 + k * 3 + 2, none⟩) hgl2).trans q2
    go_simp
    exact hK' _ _ (hI.step loc16a 13 85 rfl (by rw [hsz]; decide) _ _ rfl hall hS (fun _ _ h => h) rfl)
  · go_simp
    exact hK' _ _ (hI.step loc16a 14 86 rfl (by rw [hsz]; decide) _ _ rfl hall hS (fun _ _ h => h) rfl)
  · have e13 : c.tmps.getD 85 undef = .slice pa2 ps2.length pc2 := hI.fact 13 85 rfl (listed hall 13 (by kernel_rfl))
    simp only [Array.getD_eq_getD_getElem?] at e13
    have e14 : c.tmps.getD 86 undef = .string nm := hI.fact 14 86 rfl (listed hall 14 (by kernel_rfl))
    simp only [Array.getD_eq_getD_getElem?] at e14
    go_simp
    refine (ref3_Without _ (.slice pa2 ps2.length pc2) ps2 nm wx (hP2.out.new hS) hl2).mono ?_
    rintro e w2 ⟨u, rfl, hr, hb2⟩
    go_simp
    have hS2 : Below W.heap.size W w2 := hS.trans (hb2.mono hS.size)
    exact hK' _ _ (hI.step loc16a 15 87 rfl (by rw [hsz]; decide) _ _ rfl hall hS2 (fun _ _ h => LwF.new h hb2) (hr.base (Nat.le_trans hH hS.size)))
  · have hr : PropRow wx H (c.tmps.getD 79 undef) (withoutT ps1 nm) := hI.fact 7 79 rfl (listed hall 7 (by kernel_rfl))
    generalize hcu : c.tmps.getD 79 undef = rv at hr
    obtain ⟨a9, c9, hrv⟩ := row_slice hr.1
    subst hrv
    simp only [Array.getD_eq_getD_getElem?] at hcu
    go_simp
    exact hK' _ _ (hI.step loc16a 16 10 rfl (by rw [hsz]; decide) _ _ rfl hall hS (fun _ _ h => h) hr)
  · have hr : PropRow wx H (c.tmps.getD 87 undef) (withoutT ps2 nm) := hI.fact 15 87 rfl (listed hall 15 (by kernel_rfl))
    generalize hcu : c.tmps.getD 87 undef = rv at hr
    obtain ⟨a9, c9, hrv⟩ := row_slice hr.1
    subst hrv
    simp only [Array.getD_eq_getD_getElem?] at hcu
    go_simp
    exact hK' _ _ (hI.step loc16a 17 11 rfl (by rw [hsz]; decide) _ _ rfl hall hS (fun _ _ h => h) hr)
end Go.Proofs.YtjfkjnakmmkkiaaGreat

namespace Go.Proofs.YtjfkjnakmmkkiaaGreat
open Go.RowKit

noncomputable def loc13O : Array Oper := (regOps (Tryz.f5.body.getD .skip) 13).getD #[]
theorem loc13 : inRow2 .any loc13O = true := by kernel_rfl
theorem loc13a : apartB loc13O = true := by kernel_rfl
theorem loc13n : loc13O.size = 17 := by kernel_rfl
theorem guard_at {c : Act} {d : Nat} {b : Bool} (h : c.tmps.getD d undef = .bool b) : c.tmps[d]? = some (.bool b) := by
  rw [Array.getD_eq_getD_getElem?] at h
  cases hx : c.tmps[d]? with
  | none => rw [hx] at h; cases h
  | some v => rw [hx] at h; rw [show v = .bool b from h]
def LtF (Z Y g o n cap g2 o2 cap2 i k : Nat) (pa : Option Addr) (pc : Nat) (pa2 : Option Addr) (pc2 : Nat) (nd : NodeT) (j : Nat) : Value → World → Prop := match j with
  | 0 => fun u _ => u = .int .i64 i
  | 1 => fun u _ => u = .int .i64 k
  | 2 => fun u _ => u = .bool true
  | 3 => fun u _ => u = .bool true
  | 4 => fun u _ => u = .pointer (some ⟨Z, 0, none⟩)
  | 5 => fun u _ => u = .slice (some ⟨g, o, none⟩) n cap
  | 6 => fun u _ => u = .int .i64 i
  | 7 => fun u _ => u = .pointer (some ⟨g, o + i * 3, none⟩)
  | 8 => fun u _ => u = .agg #[.int .i64 nd.parent, .string nd.name, .slice pa nd.props.length pc]
  | 9 => fun u _ => u = .pointer (some ⟨Y, 0, none⟩)
  | 10 => fun u _ => u = .slice (some ⟨g2, o2, none⟩) n cap2
  | 11 => fun u _ => u = .int .i64 i
  | 12 => fun u _ => u = .pointer (some ⟨g2, o2 + i * 3, none⟩)
  | 13 => fun u _ => u = .agg #[.int .i64 nd.parent, .string nd.name, .slice pa2 nd.props.length pc2]
  | 14 => fun u _ => u = .bool true
  | 15 => fun u _ => u = .bool false
  | 16 => fun u _ => u = .bool false
  | _ => fun _ _ => True
theorem LtF.any {Z Y g o n cap g2 o2 cap2 i k : Nat} {pa : Option Addr} {pc : Nat} {pa2 : Option Addr} {pc2 : Nat} {nd : NodeT} {w w' : World} {j : Nat} {u : Value} (h : LtF Z Y g o n cap g2 o2 cap2 i k pa pc pa2 pc2 nd j u w) : LtF Z Y g o n cap g2 o2 cap2 i k pa pc pa2 pc2 nd j u w' := by
  unfold LtF at *
  split at h
  all_goals exact h

set_option maxHeartbeats 4000000 in
set_option maxRecDepth 100000 in
theorem loc_region13 {Q : Exit → Act → World → Prop} (Z Y g o n cap g2 o2 cap2 i k : Nat) (pa : Option Addr) (pc : Nat) (pa2 : Option Addr) (pc2 : Nat) (nd : NodeT) (W w : World) (A : Act) (hsz : A.tmps.size = 96) (hin : i < n) (hik : ((i : Int) != (k : Int)) = true) (hgl : g < W.heap.size) (hgl2 : g2 < W.heap.size) (R1 R2 : Nat → Prop)
    (hZW : Holds W Z #[.slice (some ⟨g, o, none⟩) n cap] 25) (hYW : Holds W Y #[.slice (some ⟨g2, o2, none⟩) n cap2] 25)
    (q0 : W.cell? ⟨g, o + i * 3, none⟩ = some (.int .i64 nd.parent)) (q1 : W.cell? ⟨g, o + i * 3 + 1, none⟩ = some (.string nd.name)) (q2 : W.cell? ⟨g, o + i * 3 + 2, none⟩ = some (.slice pa nd.props.length pc))
    (r0 : W.cell? ⟨g2, o2 + i * 3, none⟩ = some (.int .i64 nd.parent)) (r1 : W.cell? ⟨g2, o2 + i * 3 + 1, none⟩ = some (.string nd.name)) (r2 : W.cell? ⟨g2, o2 + i * 3 + 2, none⟩ = some (.slice pa2 nd.props.length pc2))
    (hP1 : Hid (PropsIn R1 W (.slice pa nd.props.length pc) nd.props)) (hP2 : Hid (PropsIn R2 W (.slice pa2 nd.props.length pc2) nd.props))
    (a4 : A.tmps.getD 4 undef = .pointer (some ⟨Z, 0, none⟩)) (a7 : A.tmps.getD 7 undef = .pointer (some ⟨Y, 0, none⟩)) (a5 : A.tmps.getD 5 undef = .int .i64 k) (a9 : A.tmps.getD 9 undef = .int .i64 i)
    (hS : Below W.heap.size W w) (hQ : ∀ c w', SameBut loc13O A c → Below W.heap.size W w' → c.tmps.getD 70 undef = .bool false → Q .normal c w') :
    wpAny Tryz.prog .any loc13O Q loc13O.size (Array.replicate loc13O.size false) A w := by
  refine wpAny_inv2 (fun l c wx => RInv loc13O A (LtF Z Y g o n cap g2 o2 cap2 i k pa pc pa2 pc2 nd) (fun wx => Below W.heap.size W wx) l c wx) loc13 (fun l c wx hI hl => hQ c wx hI.1 hI.2.1 (hI.fact 16 70 rfl (hl 16 (by rw [loc13n]; decide)))) ?hstep _ _ _ _ (by simp) (by simp) (RInv.start hS)
  intro l c wx hI i' op ho hl hall K' hK'
  have hi13 : i' < 17 := by rw [← loc13n]; exact (Array.getElem?_eq_some_iff.1 ho).1
  simp only [loc13O, regOps, Tryz.f5, Option.getD_some, reduceIte, Nat.reduceEqDiff] at ho
  have hS := hI.2.1
  have hii : (i : Int) < n := by omega
  have hii0 : (0 : Int) ≤ i := by omega
  have s4 := (hI.slot 4 (by kernel_rfl)).trans a4
  have s7 := (hI.slot 7 (by kernel_rfl)).trans a7
  have s5 := (hI.slot 5 (by kernel_rfl)).trans a5
  have s9 := (hI.slot 9 (by kernel_rfl)).trans a9
  simp only [Array.getD_eq_getD_getElem?] at s4 s7 s5 s9
  have hd3 : loc13O[3]?.bind (fun x => x.dst) = some 57 := by kernel_rfl
  have hic : i' = 0 ∨ i' = 1 ∨ i' = 2 ∨ i' = 3 ∨ i' = 4 ∨ i' = 5 ∨ i' = 6 ∨ i' = 7 ∨ i' = 8 ∨ i' = 9 ∨ i' = 10 ∨ i' = 11 ∨ i' = 12 ∨ i' = 13 ∨ i' = 14 ∨ i' = 15 ∨ i' = 16 := by omega
  rcases hic with rfl | rfl | rfl | rfl | rfl | rfl | rfl | rfl | rfl | rfl | rfl | rfl | rfl | rfl | rfl | rfl | rfl
  all_goals cases ho
  · go_simp
    exact hK' _ _ (hI.step loc13a 0 54 rfl (by rw [hsz]; decide) _ _ rfl hall hS (fun _ _ h => h) rfl)
  · go_simp
    exact hK' _ _ (hI.step loc13a 1 55 rfl (by rw [hsz]; decide) _ _ rfl hall hS (fun _ _ h => h) rfl)
  · have e0 : c.tmps.getD 54 undef = .int .i64 i := hI.fact 0 54 rfl (listed hall 0 (by kernel_rfl))
    simp only [Array.getD_eq_getD_getElem?] at e0
    have e1 : c.tmps.getD 55 undef = .int .i64 k := hI.fact 1 55 rfl (listed hall 1 (by kernel_rfl))
    simp only [Array.getD_eq_getD_getElem?] at e1
    go_simp
    exact hK' _ _ (hI.step loc13a 2 56 rfl (by rw [hsz]; decide) _ _ rfl hall hS (fun _ _ h => h) rfl)
  · have e2 : c.tmps.getD 56 undef = .bool true := hI.fact 2 56 rfl (listed hall 2 (by kernel_rfl))
    simp only [Array.getD_eq_getD_getElem?] at e2
    go_simp
    exact hK' _ _ (hI.step loc13a 3 57 rfl (by rw [hsz]; decide) _ _ rfl hall hS (fun _ _ h => h) rfl)
  · have g3 : c.tmps[57]? = some (.bool true) := guard_at (hI.fact 3 57 rfl (listed hall 3 (by kernel_rfl)))
    go_simp
    try rw [if_pos (by rw [hd3]; simp only [Option.bind_some, g3])]
    exact hK' _ _ (hI.step loc13a 4 58 rfl (by rw [hsz]; decide) _ _ rfl hall hS (fun _ _ h => h) rfl)
  · have g3 : c.tmps[57]? = some (.bool true) := guard_at (hI.fact 3 57 rfl (listed hall 3 (by kernel_rfl)))
    have e4 : c.tmps.getD 58 undef = .pointer (some ⟨Z, 0, none⟩) := hI.fact 4 58 rfl (listed hall 4 (by kernel_rfl))
    simp only [Array.getD_eq_getD_getElem?] at e4
    have hX := (hZW.keeps (Keeps.of_fresh hS (fun _ => False)) (fun e => e)).cell 0
    go_simp
    try rw [if_pos (by rw [hd3]; simp only [Option.bind_some, g3])]
    exact hK' _ _ (hI.step loc13a 5 59 rfl (by rw [hsz]; decide) _ _ rfl hall hS (fun _ _ h => h) rfl)
  · have g3 : c.tmps[57]? = some (.bool true) := guard_at (hI.fact 3 57 rfl (listed hall 3 (by kernel_rfl)))
    go_simp
    try rw [if_pos (by rw [hd3]; simp only [Option.bind_some, g3])]
    exact hK' _ _ (hI.step loc13a 6 60 rfl (by rw [hsz]; decide) _ _ rfl hall hS (fun _ _ h => h) rfl)
  · have g3 : c.tmps[57]? = some (.bool true) := guard_at (hI.fact 3 57 rfl (listed hall 3 (by kernel_rfl)))
    have e5 : c.tmps.getD 59 undef = .slice (some ⟨g, o, none⟩) n cap := hI.fact 5 59 rfl (listed hall 5 (by kernel_rfl))
    simp only [Array.getD_eq_getD_getElem?] at e5
    have e6 : c.tmps.getD 60 undef = .int .i64 i := hI.fact 6 60 rfl (listed hall 6 (by kernel_rfl))
    simp only [Array.getD_eq_getD_getElem?] at e6
    go_simp
    try rw [if_pos (by rw [hd3]; simp only [Option.bind_some, g3])]
    exact hK' _ _ (hI.step loc13a 7 61 rfl (by rw [hsz]; decide) _ _ rfl hall hS (fun _ _ h => h) rfl)
  · have g3 : c.tmps[57]? = some (.bool true) := guard_at (hI.fact 3 57 rfl (listed hall 3 (by kernel_rfl)))
    have e7 : c.tmps.getD 61 undef = .pointer (some ⟨g, o + i * 3, none⟩) := hI.fact 7 61 rfl (listed hall 7 (by kernel_rfl))
    simp only [Array.getD_eq_getD_getElem?] at e7
    have c0 := (hS.cell (p := ⟨g, o + i * 3, none⟩) hgl).trans q0
    have c1 := (hS.cell (p := ⟨g, o + i * 3 + 1, none⟩) hgl).trans q1
    have c2 := (hS.cell (p := ⟨g, o + i * 3 + 2, none⟩) hgl).trans q2
    go_simp
    try rw [if_pos (by rw [hd3]; simp only [Option.bind_some, g3])]
    exact hK' _ _ (hI.step loc13a 8 62 rfl (by rw [hsz]; decide) _ _ rfl hall hS (fun _ _ h => h) rfl)
  · have g3 : c.tmps[57]? = some (.bool true) := guard_at (hI.fact 3 57 rfl (listed hall 3 (by kernel_rfl)))
    go_simp
    try rw [if_pos (by rw [hd3]; simp only [Option.bind_some, g3])]
    exact hK' _ _ (hI.step loc13a 9 63 rfl (by rw [hsz]; decide) _ _ rfl hall hS (fun _ _ h => h) rfl)
  · have g3 : c.tmps[57]? = some (.bool true) := guard_at (hI.fact 3 57 rfl (listed hall 3 (by kernel_rfl)))
    have e9 : c.tmps.getD 63 undef = .pointer (some ⟨Y, 0, none⟩) := hI.fact 9 63 rfl (listed hall 9 (by kernel_rfl))
    simp only [Array.getD_eq_getD_getElem?] at e9
    have hX := (hYW.keeps (Keeps.of_fresh hS (fun _ => False)) (fun e => e)).cell 0
    go_simp
    try rw [if_pos (by rw [hd3]; simp only [Option.bind_some, g3])]
    exact hK' _ _ (hI.step loc13a 10 64 rfl (by rw [hsz]; decide) _ _ rfl hall hS (fun _ _ h => h) rfl)
  · have g3 : c.tmps[57]? = some (.bool true) := guard_at (hI.fact 3 57 rfl (listed hall 3 (by kernel_rfl)))
    go_simp
    try rw [if_pos (by rw [hd3]; simp only [Option.bind_some, g3])]
    exact hK' _ _ (hI.step loc13a 11 65 rfl (by rw [hsz]; decide) _ _ rfl hall hS (fun _ _ h => h) rfl)
  · have g3 : c.tmps[57]? = some (.bool true) := guard_at (hI.fact 3 57 rfl (listed hall 3 (by kernel_rfl)))
    have e10 : c.tmps.getD 64 undef = .slice (some ⟨g2, o2, none⟩) n cap2 := hI.fact 10 64 rfl (listed hall 10 (by kernel_rfl))
    simp only [Array.getD_eq_getD_getElem?] at e10
    have e11 : c.tmps.getD 65 undef = .int .i64 i := hI.fact 11 65 rfl (listed hall 11 (by kernel_rfl))
    simp only [Array.getD_eq_getD_getElem?] at e11
    go_simp
    try rw [if_pos (by rw [hd3]; simp only [Option.bind_some, g3])]
    exact hK' _ _ (hI.step loc13a 12 66 rfl (by rw [hsz]; decide) _ _ rfl hall hS (fun _ _ h => h) rfl)
  · have g3 : c.tmps[57]? = some (.bool true) := guard_at (hI.fact 3 57 rfl (listed hall 3 (by kernel_rfl)))
    have e12 : c.tmps.getD 66 undef = .pointer (some ⟨g2, o2 + i * 3, none⟩) := hI.fact 12 66 rfl (listed hall 12 (by kernel_rfl))
    simp only [Array.getD_eq_getD_getElem?] at e12
    have c0 := (hS.cell (p := ⟨g2, o2 + i * 3, none⟩) hgl2).trans r0
    have c1 := (hS.cell (p := ⟨g2, o2 + i * 3 + 1, none⟩) hgl2).trans r1
    have c2 := (hS.cell (p := ⟨g2, o2 + i * 3 + 2, none⟩) hgl2).trans r2
    go_simp
    try rw [if_pos (by rw [hd3]; simp only [Option.bind_some, g3])]
    exact hK' _ _ (hI.step loc13a 13 67 rfl (by rw [hsz]; decide) _ _ rfl hall hS (fun _ _ h => h) rfl)
  · have g3 : c.tmps[57]? = some (.bool true) := guard_at (hI.fact 3 57 rfl (listed hall 3 (by kernel_rfl)))
    have e8 : c.tmps.getD 62 undef = .agg #[.int .i64 nd.parent, .string nd.name, .slice pa nd.props.length pc] := hI.fact 8 62 rfl (listed hall 8 (by kernel_rfl))
    simp only [Array.getD_eq_getD_getElem?] at e8
    have e13 : c.tmps.getD 67 undef = .agg #[.int .i64 nd.parent, .string nd.name, .slice pa2 nd.props.length pc2] := hI.fact 13 67 rfl (listed hall 13 (by kernel_rfl))
    simp only [Array.getD_eq_getD_getElem?] at e13
    go_simp
    try rw [if_pos (by rw [hd3]; simp only [Option.bind_some, g3])]
    refine (ref3_SameNode R1 R2 nd.parent nd.parent nd.name nd.name _ _ nd.props nd.props wx (hP1.out.new hS) (hP2.out.new hS)).mono ?_
    rintro e w2 ⟨b, rfl, hb, hb2⟩
    obtain rfl : b = true := hb.2 ⟨rfl, rfl, rfl⟩
    go_simp
    try rw [if_pos (by rw [hd3]; simp only [Option.bind_some, g3])]
    have hS2 : Below W.heap.size W w2 := hS.trans (hb2.mono hS.size)
    exact hK' _ _ (hI.step loc13a 14 68 rfl (by rw [hsz]; decide) _ _ rfl hall hS2 (fun _ _ h => LtF.any h) rfl)
  · have g3 : c.tmps[57]? = some (.bool true) := guard_at (hI.fact 3 57 rfl (listed hall 3 (by kernel_rfl)))
    have e14 : c.tmps.getD 68 undef = .bool true := hI.fact 14 68 rfl (listed hall 14 (by kernel_rfl))
    simp only [Array.getD_eq_getD_getElem?] at e14
    go_simp
    try rw [if_pos (by rw [hd3]; simp only [Option.bind_some, g3])]
    exact hK' _ _ (hI.step loc13a 15 69 rfl (by rw [hsz]; decide) _ _ rfl hall hS (fun _ _ h => h) rfl)
  · have e3 : c.tmps.getD 57 undef = .bool true := hI.fact 3 57 rfl (listed hall 3 (by kernel_rfl))
    simp only [Array.getD_eq_getD_getElem?] at e3
    have e15 : c.tmps.getD 69 undef = .bool false := hI.fact 15 69 rfl (listed hall 15 (by kernel_rfl))
    simp only [Array.getD_eq_getD_getElem?] at e15
    go_simp
    exact hK' _ _ (hI.step loc13a 16 70 rfl (by rw [hsz]; decide) _ _ rfl hall hS (fun _ _ h => h) rfl)
end Go.Proofs.YtjfkjnakmmkkiaaGreat

namespace Go.Proofs.YtjfkjnakmmkkiaaGreat
open Go.RowKit

def LocS (T U : List NodeT) (tv uv : Value) (Z V : Nat) (base : Nat) (W : World) (f : Nat) (x : Value) (w : World) : Prop :=
  ∃ i : Nat, x = .int .i64 i ∧ i ≤ T.length ∧ T.length ≤ i + f ∧ NodesIn (fun g => base ≤ g) w tv T ∧ NodesIn (fun g => base ≤ g) w uv U ∧ Holds w Z #[tv] 25 ∧ Holds w V #[uv] 25 ∧ Below W.heap.size W w

set_option maxRecDepth 100000 in
set_option maxHeartbeats 4000000 in
theorem treeLocal_walk (a : Option Addr) (len cap : Nat) (w : World) (hi : IntsIn w a len) (hlc : len ≤ cap) (hcap : cap ≤ maxLen) (hnil : a = none → len = 0 ∧ cap = 0) :
    Calls Tryz.prog 5 #[.slice a len cap] w fun e w' => e = .returned (.bool true) ∧ Below w.heap.size w w' := by
  go_enter Tryz.func5, Tryz.ntmps5
  go_wp2_with fail
  refine (mk_New a len cap _ hi hlc hcap hnil).mono ?_
  rintro e w1 ⟨tb, rfl, hT1, hb1⟩
  clear hi hnil
  have hB := hT1.1
  have htl := hT1.lt
  go_wp2_with fail
  refine (grow_Tree w.heap.size tb 10 _ (by exact hT1) (by omega) (by omega)).mono ?_
  rintro e w2 ⟨v, T, rfl, hR, hs, hl, hT2, hk2⟩
  obtain ⟨va, vc, rfl⟩ := hR.slice
  have hb2 : Below w.heap.size w w2 := hb1.trans (hk2.below (by omega) (fun i hi e => by omega))
  have hba : Below w2.heap.size w2 (w2.alloc (.cells #[.slice va T.length vc] 25)) := (Below.refl _ _).alloc (Nat.le_refl _) _
  have hR2 := hR.new hba
  have hTn := hT2.new hba
  have hb3 := hb2.alloc hb2.size (.cells #[.slice va T.length vc] 25)
  have hZ := Holds.new w2 #[.slice va T.length vc] 25
  have h0 := (limits_len (check_limits hs)).1
  have hT11 : T.length ≤ 11 := by omega
  have z0 := hZ.cell 0
  have htl2 := hT2.lt
  have hbs1 := hk2.size
  clear hR hb2 hb1 hk2 hT1 hT2 hba
  generalize w1.heap.size = base at *
  go_wp2_with fail
  refine (mk_N w.heap.size tb T.length _ (by exact hTn) (by omega) (by omega)).mono ?_
  rintro e w3 ⟨r, rfl, hr0, hr1, hT3, hk3⟩
  obtain ⟨k, rfl⟩ := Int.eq_ofNat_of_zero_le hr0
  have hkT : k < T.length := by omega
  have hR3 := hR2.tape hTn hk3
  have hZ3 := hZ.keeps hk3 (by omega)
  have hb4 := hb3.trans (hk3.below hb3.size (fun i hi e => by omega))
  have hpq : pathQ T k = pathS T k := by unfold pathQ; rw [if_neg (by rintro (h | h | h); exact h hs; omega; omega)]; simp
  have hbs3 : w2.heap.size ≤ w3.heap.size := Nat.le_trans (by simp) hk3.size
  clear hR2 hTn hb3 hZ z0 hk3 hr0 hr1
  go_wp2_with fail
  refine (mk_Property w.heap.size tb w3 (by exact hT3)).mono ?_
  rintro e w4 ⟨nm, rfl, hnm, hT4, hk4⟩
  have hR4 := hR3.tape hT3 hk4
  have hZ4 := hZ3.keeps hk4 (by omega)
  have hb5 := hb4.trans (hk4.below hb4.size (fun i hi e => by omega))
  have hbs4 := hk4.size
  have hpr := Lib.hid (lProperty_ok nm hnm)
  have hnsz : nm.size ≤ 9223372036854775807 := Nat.le_trans (lProperty_sz nm hnm) (by omega)
  have hzl := hZ4.lt
  have hS0 : GsS w.heap.size tb base w2.heap.size (.slice va T.length vc) T w4 w4.drew := ⟨hT4.keeps ((Keeps.refl (fun _ => False) _).drew) (fun _ e => e.elim), hR4, hZ4, (Keeps.refl _ _).drew⟩
  have htl4 := hT4.lt
  clear hR3 hZ3 hb4 hT3 hk4 hnm hR4 hT4
  go_wp2_with fail
  generalize w2.heap.size = Z at *
  refine wp_region_any (by kernel_rfl) ?_
  refine wpAny_ops (ops' := locOps 5) (by kernel_rfl) ?_
  refine loc_region5 w.heap.size tb base Z (.slice va T.length vc) T k nm w4 _ _ rfl hzl htl4 (by omega) (by omega) (by omega) hnsz hpq rfl rfl rfl rfl (by exact hS0) ?_
  intro c w5 sv er U N hsb hS5 e7 hN5 e8 hrU hst hNq
  obtain ⟨y7, y8, y23, y24, y25, y26, y27, y28, y29, y30, y31, y32, y33, hc⟩ := hsb.ex [7, 8, 23, 24, 25, 26, 27, 28, 29, 30, 31, 32, 33] (by kernel_rfl)
  subst hc
  simp only [List.setIfInBounds_toArray, List.set_cons_zero, List.set_cons_succ] at e7 e8 ⊢
  have e7' : y7 = .pointer (some ⟨N, 0, none⟩) := e7
  have e8' : y8 = .int .i64 er := e8
  subst e7'
  subst e8'
  have hb6 : Below w.heap.size w w5 := hb5.trans (hS5.2.2.2.below hb5.size (fun i hi e => by omega))
  have hTn := hS5.2.1.in
  have hUn := hrU.in
  have hZ5 := hS5.2.2.1
  have HC := Lib.hid hs
  clear hb5 hsb e7 e8 hS0 hS5 hs hZ4
  obtain ⟨ua, uc, rfl⟩ := tree_slice hrU
  have haw := Lib.hid (fun wx => law03_awake wx)
  rcases set_to HC.out hkT hpr.out hst with ⟨rfl, rfl⟩ | ⟨rfl, vl, hU⟩
  · clear hst hrU hTn hUn hZ5 hN5
    go_wp2_with fail
    refine (haw.out _).mono ?_
    rintro e w6 ⟨rfl, hb7⟩
    go_wp2_with fail
    go_ret
    exact ⟨rfl, hb6.trans (hb7.mono hb6.size)⟩
  · have hUl : U.length = T.length := by rw [hU]; simp
    have HU := Lib.hid hU
    clear hU hst hrU
    have hS1 : LocS T U (.slice va T.length vc) (.slice ua U.length uc) Z N base w T.length (.int .i64 0) w5 := ⟨0, rfl, by omega, by omega, hTn, hUn, hZ5, hN5, hb6⟩
    have HUL := Lib.hid hUl
    have hUI : Hid (U.length = T.length) := HUL
    generalize U.length = m at *
    subst hUl
    have z5 := hZ5.cell 0
    have n5 := hN5.cell 0
    clear hTn hUn hZ5 hN5 hb6
    go_wp2_with fail
    clear z5 n5
    go_loopg [51] T.length (fun f x wr => LocS T U (.slice va T.length vc) (.slice ua T.length uc) Z N base w f x wr)
    case atStart => exact hS1
    case round =>
      clear hS1
      obtain ⟨i, rfl, hi1, hi2, hTn, hUn, hZr, hNr, hb⟩ := hrel
      have z0 := hZr.cell 0
      have n0 := hNr.cell 0
      by_cases hlt : i < T.length
      · have hlt' : (i : Int) < T.length := by omega
        by_cases hik : i = k
        · have hikb : ((i : Int) != (k : Int)) = false := by rw [hik]; simp
          have HF := Lib.hid (show ∀ n : Nat, LocS T U (.slice va T.length vc) (.slice ua T.length uc) Z N base w (gk - 1) (.int .i64 ((i : Int) + 1)) (wr.drewN n) from
            fun n => ⟨i + 1, rfl, by omega, by omega, hTn, hUn, hZr, hNr, ⟨hb.os, hb.tape, hb.output, hb.size, hb.block⟩⟩)
          clear hTn hUn hZr hNr hb hik
          go_wp2_with fail
          go_quiet (fail)
          go_wp2_with fail
          go_roundg (gk - 1)
          case measure => omega
          case rel => exact HF.out _
        · have hikb : ((i : Int) != (k : Int)) = true := by simp; omega
          have hUlen : U.length = T.length := by rw [HU.out]; simp
          have hue : U[i]'(by omega) = T[i] := by simp only [HU.out]; rw [List.getElem_set_ne (by omega)]
          obtain ⟨g, o, pa, pc, hva, hg, q0, q1, q2, hPP, -⟩ := hTn.at i hlt
          obtain ⟨g2, o2, pa2, pc2, hya, hg2, r0, r1, r2, hPP2, -⟩ := hUn.at i (by omega)
          rw [hue] at r0 r1 r2 hPP2
          have HF := Lib.hid (show ∀ wx, Below wr.heap.size wr wx → LocS T U (.slice va T.length vc) (.slice ua T.length uc) Z N base w (gk - 1) (.int .i64 ((i : Int) + 1)) wx from
            fun wx hx => ⟨i + 1, rfl, by omega, by omega, hTn.new hx, hUn.new hx, hZr.keeps (Keeps.of_fresh hx (fun _ => False)) (fun e => e), hNr.keeps (Keeps.of_fresh hx (fun _ => False)) (fun e => e), hb.trans (hx.mono hb.size)⟩)
          subst hva
          subst hya
          have HP1 := Lib.hid hPP
          have HP2 := Lib.hid hPP2
          have hZr0 := Lib.hid hZr
          have hNr0 := Lib.hid hNr
          clear hTn hUn hZr hNr hb hPP hPP2 hue hUlen
          generalize T[i] = nd at *
          go_wp2_with fail
          refine wp_region_any (by kernel_rfl) ?_
          refine wpAny_ops (ops' := loc13O) (by kernel_rfl) ?_
          refine loc_region13 Z N g o T.length vc g2 o2 uc i k pa pc pa2 pc2 nd wr _ _ rfl hlt hikb hg hg2 _ _ hZr0.out hNr0.out q0 q1 q2 r0 r1 r2 HP1 HP2 rfl rfl rfl rfl ((Below.refl _ _).drew) ?_
          intro c w6 hsb hb7 e70
          obtain ⟨y54, y55, y56, y57, y58, y59, y60, y61, y62, y63, y64, y65, y66, y67, y68, y69, y70, hc⟩ := hsb.ex [54, 55, 56, 57, 58, 59, 60, 61, 62, 63, 64, 65, 66, 67, 68, 69, 70] (by kernel_rfl)
          subst hc
          simp only [List.setIfInBounds_toArray, List.set_cons_zero, List.set_cons_succ] at e70 ⊢
          have e70' : y70 = .bool false := e70
          subst e70'
          clear hsb e70
          go_wp2_with fail
          go_roundg (gk - 1)
          case measure => omega
          case rel => exact HF.out _ hb7
      · obtain rfl : i = T.length := by omega
        have hUlen : U.length = T.length := by rw [HU.out]; simp
        have hue : (U[k]'(by omega)).props = putT T[k].props ⟨nm, vl⟩ := by simp only [HU.out]; rw [List.getElem_set_self]
        obtain ⟨g, o, pa, pc, hva, hg, q0, q1, q2, hPP, -⟩ := hTn.at k hkT
        obtain ⟨g2, o2, pa2, pc2, hya, hg2, r0, r1, r2, hPP2, -⟩ := hUn.at k (by omega)
        rw [hue] at r2 hPP2
        subst hva
        subst hya
        have HP1 := Lib.hid hPP
        have HP2 := Lib.hid hPP2
        have hpl := (check_props HC.out) T[k] (List.getElem_mem hkT)
        have hfp : T[k].props.length ≤ 24 := by
          have h := check_limits HC.out
          unfold limitsT at h
          rw [Bool.and_eq_true] at h
          have := List.all_eq_true.1 h.2 _ (List.getElem_mem hkT)
          unfold fitB at this
          rw [Bool.and_eq_true] at this
          exact of_decide_eq_true this.1
        have hpl2 : (putT T[k].props ⟨nm, vl⟩).length ≤ 1000 := by have := putT_len T[k].props ⟨nm, vl⟩; omega
        have hwo := Lib.hid (without_put T[k].props nm vl)
        have hb2 := Lib.hid hb
        have hbw : base ≤ wr.heap.size := by have := hZr.lt; omega
        clear hTn hUn hPP hPP2 hb z0 n0
        go_wp2_with fail
        refine wp_region_any (by kernel_rfl) ?_
        refine wpAny_ops (ops' := loc16O) (by kernel_rfl) ?_
        refine loc_region16 Z N g o T.length vc g2 o2 uc k base pa pc pa2 pc2 T[k].props (putT T[k].props ⟨nm, vl⟩) nm wr _ _ rfl hkT hg hg2 hbw hpl hpl2 _ _ hZr hNr q2 r2 HP1 HP2 rfl rfl rfl rfl ((Below.refl _ _).drew) ?_
        intro c w6 hsb hb7 h10 h11
        rw [hwo.out] at h11
        obtain ⟨y10, y11, y72, y73, y74, y75, y76, y77, y78, y79, y80, y81, y82, y83, y84, y85, y86, y87, hc⟩ := hsb.ex [10, 11, 72, 73, 74, 75, 76, 77, 78, 79, 80, 81, 82, 83, 84, 85, 86, 87] (by kernel_rfl)
        subst hc
        simp only [List.setIfInBounds_toArray, List.set_cons_zero, List.set_cons_succ] at h10 h11 ⊢
        have h10' : PropRow w6 base y10 (withoutT T[k].props nm) := h10
        have h11' : PropRow w6 base y11 (withoutT T[k].props nm) := h11
        obtain ⟨xa, xc, rfl⟩ := row_slice h10'.1
        obtain ⟨xa2, xc2, rfl⟩ := row_slice h11'.1
        have hsn := Lib.hid (ref3_SameNode (fun g => base ≤ g) (fun g => base ≤ g) 0 0 ⟨#[]⟩ ⟨#[]⟩ _ _ _ _ w6 h10'.in h11'.in)
        have hb8 := hb2.out.trans (hb7.mono hb2.out.size)
        clear h10 h11 h10' h11' hsb hb7 hb2 HP1 HP2 hZr hNr q0 q1 q2 r0 r1 r2 hwo hue
        generalize (withoutT T[k].props nm).length = m2 at *
        go_wp2_with fail
        refine hsn.out.mono ?_
        rintro e w7 ⟨b, rfl, hb9, hb10⟩
        obtain rfl : b = true := hb9.2 (by simp)
        have hb11 := hb8.trans (hb10.mono hb8.size)
        clear hb8 hb9 hb10 hsn
        go_wp2_with fail
        refine (haw.out _).mono ?_
        rintro e w8 ⟨rfl, hb12⟩
        go_wp2_with fail
        go_ret
        exact ⟨rfl, hb11.trans (hb12.mono hb11.size)⟩
end Go.Proofs.YtjfkjnakmmkkiaaGreat
