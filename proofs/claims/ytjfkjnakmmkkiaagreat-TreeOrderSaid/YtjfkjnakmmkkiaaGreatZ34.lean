/- The law TreeLocal: region 5 (printed by gloc.py). | The law TreeLocal: region 16 (printed by gloc2.py), and what Set leaves as it is (plain). | Delete undoes Set (plain). -/
import Derived.Test.YtjfkjnakmmkkiaaGreatZ23
import Derived.Test.YtjfkjnakmmkkiaaGreatZ13
import Derived.Test.YtjfkjnakmmkkiaaGreatZ7
import Derived.Test.YtjfkjnakmmkkiaaGreatZ33

namespace Go.Proofs.YtjfkjnakmmkkiaaGreat
open Go.RowKit

noncomputable def locOps (n : Nat) : Array Oper := (regOps (Tryz.f5.body.getD .skip) n).getD #[]
theorem loc5 : inRow2 .any (locOps 5) = true := by kernel_rfl
theorem loc5a : apartB (locOps 5) = true := by kernel_rfl
theorem loc5n : (locOps 5).size = 14 := by kernel_rfl
def SetTo (T : List NodeT) (k : Nat) (nm : ByteArray) (T' : List NodeT) (er : Int) : Prop := ∃ va, er = (setT T (pathS T k) nm va).2 ∧ T' = (setT T (pathS T k) nm va).1
def LcF (b base : Nat) (v : Value) (T : List NodeT) (k : Nat) (nm : ByteArray) (sv : Value) (er : Int) (T' : List NodeT) (N : Nat) (j : Nat) : Value → World → Prop := match j with
  | 0 => fun u _ => u = .agg #[v]
  | 1 => fun u _ => u = .agg #[v]
  | 2 => fun u _ => u = .int .i64 k
  | 3 => fun u _ => u = .string (pathS T k)
  | 4 => fun u _ => u = .string nm
  | 5 => fun u _ => u = .pointer (some ⟨b, 0, none⟩)
  | 6 => fun u _ => ∃ s : ByteArray, u = .string s ∧ s.size ≤ 100
  | 7 => fun u w => u = .tuple #[.agg #[sv], .int .i64 er] ∧ TreeRow w base sv T' ∧ SetTo T k nm T' er
  | 8 => fun u w => u = .tuple #[.agg #[sv], .int .i64 er] ∧ TreeRow w base sv T' ∧ SetTo T k nm T' er
  | 9 => fun u _ => u = .agg #[sv]
  | 10 => fun u _ => u = .int .i64 er
  | 11 => fun u w => u = .pointer (some ⟨N, 0, none⟩) ∧ ∃ x, Holds w N #[x] 25
  | 12 => fun _ w => Holds w N #[sv] 25
  | 13 => fun u _ => u = .int .i64 er
  | _ => fun _ _ => True
section
variable {b base k : Nat} {v sv : Value} {T T' : List NodeT} {nm : ByteArray} {er : Int} {N : Nat} {w w' : World}
theorem LcF.keeps {B : Nat} {j : Nat} {u : Value} (h : LcF b base v T k nm sv er T' N j u w) (hT : Tape B w b) (kk : Keeps (· = b) w w') (hN : N ≠ b) : LcF b base v T k nm sv er T' N j u w' := by
  unfold LcF at *
  split at h
  all_goals first
    | exact h
    | exact ⟨h.1, h.2.1.tape hT kk, h.2.2⟩
    | (obtain ⟨e, x, hH⟩ := h; exact ⟨e, x, hH.keeps kk hN⟩)
    | exact Holds.keeps h kk hN
theorem LcF.store {j : Nat} {u x : Value} (h : LcF b base v T k nm sv er T' N j u w) (hH : Holds w N #[x] 25) : LcF b base v T k nm sv er T' N j u (w.setCell ⟨N, 0, none⟩ sv) := by
  unfold LcF at *
  split at h
  all_goals first
    | exact h
    | exact ⟨h.1, h.2.1.set hH (by decide) (by decide) 0 sv, h.2.2⟩
    | exact ⟨h.1, _, hH.set 0 sv⟩
    | exact hH.set 0 sv
theorem LcF.ghost {j : Nat} {u : Value} {sv2 : Value} {er2 : Int} {T2 : List NodeT} (h : LcF b base v T k nm sv er T' N j u w) (h7 : j ≠ 7) (h8 : j ≠ 8) (h9 : j ≠ 9) (h10 : j ≠ 10) (h12 : j ≠ 12) (h13 : j ≠ 13) : LcF b base v T k nm sv2 er2 T2 N j u w := by
  unfold LcF at *
  split at h
  all_goals first
    | exact h
    | exact absurd rfl h7
    | exact absurd rfl h8
    | exact absurd rfl h9
    | exact absurd rfl h10
    | exact absurd rfl h12
    | exact absurd rfl h13
theorem LcF.ghostN {j : Nat} {u : Value} {N2 : Nat} (h : LcF b base v T k nm sv er T' N j u w) (h11 : j ≠ 11) (h12 : j ≠ 12) : LcF b base v T k nm sv er T' N2 j u w := by
  unfold LcF at *
  split at h
  all_goals first
    | exact h
    | exact absurd rfl h11
    | exact absurd rfl h12
end

set_option maxHeartbeats 4000000 in
set_option maxRecDepth 100000 in
theorem loc_region5 {Q : Exit → Act → World → Prop} (B b base Z : Nat) (v : Value) (T : List NodeT) (k : Nat) (nm : ByteArray) (W w : World) (A : Act) (hsz : A.tmps.size = 96) (hZW : Z < W.heap.size) (hbW : b < W.heap.size) (hBW : B ≤ W.heap.size) (hbase : base ≤ W.heap.size) (hZb : Z ≠ b) (hnm : nm.size ≤ 9223372036854775807) (hpq : pathQ T (k : Int) = pathS T k)
    (a3 : A.tmps.getD 3 undef = .pointer (some ⟨b, 0, none⟩)) (a4 : A.tmps.getD 4 undef = .pointer (some ⟨Z, 0, none⟩)) (a5 : A.tmps.getD 5 undef = .int .i64 k) (a6 : A.tmps.getD 6 undef = .string nm) (hS : GsS B b base Z v T W w)
    (hQ : ∀ c w' sv er T' N, SameBut (locOps 5) A c → GsS B b base Z v T W w' → c.tmps.getD 7 undef = .pointer (some ⟨N, 0, none⟩) → Holds w' N #[sv] 25 → c.tmps.getD 8 undef = .int .i64 er → TreeRow w' base sv T' → SetTo T k nm T' er → W.heap.size ≤ N → Q .normal c w') :
    wpAny Tryz.prog .any (locOps 5) Q (locOps 5).size (Array.replicate (locOps 5).size false) A w := by
  refine wpAny_inv2 (fun l c wx => ∃ sv er T' N, RInv (locOps 5) A (LcF b base v T k nm sv er T' N) (GsS B b base Z v T W) l c wx ∧ W.heap.size ≤ N) loc5 ?hend ?hstep _ _ _ _ (by simp) (by simp) ⟨.slice none 0 0, 0, [], W.heap.size, RInv.start hS, Nat.le_refl _⟩
  case hend =>
    rintro l c wx ⟨sv, er, T', N, hI, hNq⟩ hl
    have hh : ∀ k, k < 14 → l.getD k false = true := fun k hk => hl k (by rw [loc5n]; exact hk)
    obtain ⟨e8, hr8, hs8⟩ : c.tmps.getD 23 undef = .tuple #[.agg #[sv], .int .i64 er] ∧ TreeRow wx base sv T' ∧ SetTo T k nm T' er := hI.fact 8 23 rfl (hh 8 (by decide))
    have e11 : c.tmps.getD 7 undef = .pointer (some ⟨N, 0, none⟩) ∧ ∃ x, Holds wx N #[x] 25 := hI.fact 11 7 rfl (hh 11 (by decide))
    have h12 : Holds wx N #[sv] 25 := hI.2.2.2 12 (by rw [loc5n]; decide) (hh 12 (by decide))
    have e13 : c.tmps.getD 8 undef = .int .i64 er := hI.fact 13 8 rfl (hh 13 (by decide))
    exact hQ c wx sv er T' N hI.1 hI.2.1 e11.1 h12 e13 hr8 hs8 hNq
  intro l c wx hI i' op ho hl hall K' hK'
  obtain ⟨sv, er, T', N, hI, hNq⟩ := hI
  have hNb : N ≠ b := by omega
  have hi13 : i' < 14 := by rw [← loc5n]; exact (Array.getElem?_eq_some_iff.1 ho).1
  simp only [locOps, regOps, Tryz.f5, Option.getD_some, reduceIte, Nat.reduceEqDiff] at ho
  have HS := Lib.hid hI.2.1
  have s3 := (hI.slot 3 (by kernel_rfl)).trans a3
  have s4 := (hI.slot 4 (by kernel_rfl)).trans a4
  have s5 := (hI.slot 5 (by kernel_rfl)).trans a5
  have s6 := (hI.slot 6 (by kernel_rfl)).trans a6
  simp only [Array.getD_eq_getD_getElem?] at s3 s4 s5 s6
  have hic : i' = 0 ∨ i' = 1 ∨ i' = 2 ∨ i' = 3 ∨ i' = 4 ∨ i' = 5 ∨ i' = 6 ∨ i' = 7 ∨ i' = 8 ∨ i' = 9 ∨ i' = 10 ∨ i' = 11 ∨ i' = 12 ∨ i' = 13 := by omega
  rcases hic with rfl | rfl | rfl | rfl | rfl | rfl | rfl | rfl | rfl | rfl | rfl | rfl | rfl | rfl
  all_goals cases ho
  · have hX := HS.out.2.2.1.cell 0
    go_simp
    exact hK' _ _ ⟨sv, er, T', N, hI.step loc5a 0 24 rfl (by rw [hsz]; decide) _ _ rfl hall HS.out (fun _ _ h => h) rfl, hNq⟩
  · have hX := HS.out.2.2.1.cell 0
    go_simp
    exact hK' _ _ ⟨sv, er, T', N, hI.step loc5a 1 25 rfl (by rw [hsz]; decide) _ _ rfl hall HS.out (fun _ _ h => h) rfl, hNq⟩
  · go_simp
    exact hK' _ _ ⟨sv, er, T', N, hI.step loc5a 2 26 rfl (by rw [hsz]; decide) _ _ rfl hall HS.out (fun _ _ h => h) rfl, hNq⟩
  · have e1 : c.tmps.getD 25 undef = .agg #[v] := hI.fact 1 25 rfl (listed hall 1 (by kernel_rfl))
    simp only [Array.getD_eq_getD_getElem?] at e1
    have e2 : c.tmps.getD 26 undef = .int .i64 k := hI.fact 2 26 rfl (listed hall 2 (by kernel_rfl))
    simp only [Array.getD_eq_getD_getElem?] at e2
    go_simp
    refine (ref3_Path _ _ T k wx HS.out.2.1.in).mono ?_
    rintro e w2 ⟨rfl, hb2⟩
    rw [hpq]
    go_simp
    have k2 := Keeps.of_fresh hb2 (fun i => i = b)
    have hS2 := HS.out.call hZb k2 (HS.out.1.new hb2)
    exact hK' _ _ ⟨sv, er, T', N, hI.step loc5a 3 27 rfl (by rw [hsz]; decide) _ _ rfl hall hS2 (fun _ _ h => LcF.keeps h HS.out.1 k2 hNb) rfl, hNq⟩
  · go_simp
    exact hK' _ _ ⟨sv, er, T', N, hI.step loc5a 4 28 rfl (by rw [hsz]; decide) _ _ rfl hall HS.out (fun _ _ h => h) rfl, hNq⟩
  · go_simp
    exact hK' _ _ ⟨sv, er, T', N, hI.step loc5a 5 29 rfl (by rw [hsz]; decide) _ _ rfl hall HS.out (fun _ _ h => h) rfl, hNq⟩
  · have e5 : c.tmps.getD 29 undef = .pointer (some ⟨b, 0, none⟩) := hI.fact 5 29 rfl (listed hall 5 (by kernel_rfl))
    simp only [Array.getD_eq_getD_getElem?] at e5
    go_simp
    refine (grow_Value B b wx HS.out.1).mono ?_
    rintro e w2 ⟨s, rfl, hs, ht2, k2⟩
    go_simp
    have hS2 := HS.out.call hZb k2 ht2
    exact hK' _ _ ⟨sv, er, T', N, hI.step loc5a 6 30 rfl (by rw [hsz]; decide) _ _ rfl hall hS2 (fun _ _ h => LcF.keeps h HS.out.1 k2 hNb) ⟨s, rfl, hs⟩, hNq⟩
  · have e0 : c.tmps.getD 24 undef = .agg #[v] := hI.fact 0 24 rfl (listed hall 0 (by kernel_rfl))
    simp only [Array.getD_eq_getD_getElem?] at e0
    have e3 : c.tmps.getD 27 undef = .string (pathS T k) := hI.fact 3 27 rfl (listed hall 3 (by kernel_rfl))
    simp only [Array.getD_eq_getD_getElem?] at e3
    have e4 : c.tmps.getD 28 undef = .string nm := hI.fact 4 28 rfl (listed hall 4 (by kernel_rfl))
    simp only [Array.getD_eq_getD_getElem?] at e4
    obtain ⟨vl, e6, hvl⟩ : ∃ s : ByteArray, c.tmps.getD 30 undef = .string s ∧ s.size ≤ 100 := hI.fact 6 30 rfl (listed hall 6 (by kernel_rfl))
    simp only [Array.getD_eq_getD_getElem?] at e6
    go_simp
    refine (tree_Set _ _ T (pathS T k) nm vl wx HS.out.2.1.in hnm (by omega)).mono ?_
    rintro e w2 ⟨v2, rfl, hr2, hb2⟩
    go_simp
    have k2 := Keeps.of_fresh hb2 (fun i => i = b)
    have hS2 := HS.out.call hZb k2 (HS.out.1.new hb2)
    have hr3 := hr2.base (Nat.le_trans hbase HS.out.2.2.2.size)
    have hst : SetTo T k nm (setT T (pathS T k) nm vl).1 (setT T (pathS T k) nm vl).2 := ⟨vl, rfl, rfl⟩
    have u8 := hI.2.2.1.2.unlisted hl (j := 8) (by kernel_rfl)
    have u9 := hI.2.2.1.2.unlisted u8 (j := 9) (by kernel_rfl)
    have u10 := hI.2.2.1.2.unlisted u8 (j := 10) (by kernel_rfl)
    have u12 := hI.2.2.1.2.unlisted u9 (j := 12) (by kernel_rfl)
    have u13 := hI.2.2.1.2.unlisted u10 (j := 13) (by kernel_rfl)
    have hJ := hI.other (F' := LcF b base v T k nm v2 (setT T (pathS T k) nm vl).2 (setT T (pathS T k) nm vl).1 N) (fun j hj u hF => hF.ghost (yes_no hj hl) (yes_no hj u8) (yes_no hj u9) (yes_no hj u10) (yes_no hj u12) (yes_no hj u13))
    exact hK' _ _ ⟨v2, (setT T (pathS T k) nm vl).2, (setT T (pathS T k) nm vl).1, N, hJ.step loc5a 7 31 rfl (by rw [hsz]; decide) _ _ rfl hall hS2 (fun _ _ h => LcF.keeps h HS.out.1 k2 hNb) ⟨rfl, hr3, hst⟩, hNq⟩
  · obtain ⟨e8, hr8, hs8⟩ : c.tmps.getD 31 undef = .tuple #[.agg #[sv], .int .i64 er] ∧ TreeRow wx base sv T' ∧ SetTo T k nm T' er := hI.fact 7 31 rfl (listed hall 7 (by kernel_rfl))
    simp only [Array.getD_eq_getD_getElem?] at e8
    go_simp
    exact hK' _ _ ⟨sv, er, T', N, hI.step loc5a 8 23 rfl (by rw [hsz]; decide) _ _ rfl hall HS.out (fun _ _ h => h) ⟨rfl, hr8, hs8⟩, hNq⟩
  · obtain ⟨e9, hr9, hs9⟩ : c.tmps.getD 23 undef = .tuple #[.agg #[sv], .int .i64 er] ∧ TreeRow wx base sv T' ∧ SetTo T k nm T' er := hI.fact 8 23 rfl (listed hall 8 (by kernel_rfl))
    simp only [Array.getD_eq_getD_getElem?] at e9
    go_simp
    exact hK' _ _ ⟨sv, er, T', N, hI.step loc5a 9 32 rfl (by rw [hsz]; decide) _ _ rfl hall HS.out (fun _ _ h => h) rfl, hNq⟩
  · obtain ⟨e9, hr9, hs9⟩ : c.tmps.getD 23 undef = .tuple #[.agg #[sv], .int .i64 er] ∧ TreeRow wx base sv T' ∧ SetTo T k nm T' er := hI.fact 8 23 rfl (listed hall 8 (by kernel_rfl))
    simp only [Array.getD_eq_getD_getElem?] at e9
    go_simp
    exact hK' _ _ ⟨sv, er, T', N, hI.step loc5a 10 33 rfl (by rw [hsz]; decide) _ _ rfl hall HS.out (fun _ _ h => h) rfl, hNq⟩
  · go_simp
    have hb2 : Below wx.heap.size wx (wx.alloc (.cells #[.slice none 0 0] 25)) := (Below.refl _ _).alloc (Nat.le_refl _) _
    have k2 := Keeps.of_fresh hb2 (fun i => i = b)
    have hS2 := HS.out.call hZb k2 (HS.out.1.new hb2)
    have u12 := hI.2.2.1.2.unlisted hl (j := 12) (by kernel_rfl)
    have hNn : wx.heap.size ≠ b := by have := HS.out.1.lt; omega
    have hNm : W.heap.size ≤ wx.heap.size := HS.out.2.2.2.size
    have hJ := hI.other (F' := LcF b base v T k nm sv er T' wx.heap.size) (fun j hj u hF => hF.ghostN (yes_no hj hl) (yes_no hj u12))
    exact hK' _ _ ⟨sv, er, T', wx.heap.size, hJ.step loc5a 11 7 rfl (by rw [hsz]; decide) _ _ rfl hall hS2 (fun _ _ h => LcF.keeps h HS.out.1 k2 hNn) ⟨rfl, _, Holds.new _ _ _⟩, hNm⟩
  · obtain ⟨e12, x, hHN⟩ : c.tmps.getD 7 undef = .pointer (some ⟨N, 0, none⟩) ∧ ∃ x, Holds wx N #[x] 25 := hI.fact 11 7 rfl (listed hall 11 (by kernel_rfl))
    simp only [Array.getD_eq_getD_getElem?] at e12
    have e9 : c.tmps.getD 32 undef = .agg #[sv] := hI.fact 9 32 rfl (listed hall 9 (by kernel_rfl))
    simp only [Array.getD_eq_getD_getElem?] at e9
    have u0 := hHN.cell 0
    have u1 := hHN.free 0
    obtain ⟨e8, hr8, hs8⟩ : c.tmps.getD 23 undef = .tuple #[.agg #[sv], .int .i64 er] ∧ TreeRow wx base sv T' ∧ SetTo T k nm T' er := hI.fact 8 23 rfl (by
      have p9 := listed hall 9 (by kernel_rfl)
      cases p8 : l.getD 8 false with
      | true => rfl
      | false => rw [hI.2.2.1.2.unlisted p8 (j := 9) (by kernel_rfl)] at p9; cases p9)
    obtain ⟨a2, c2, rfl⟩ := hr8.slice
    have n0 : wx.cell? ⟨N, 0, none⟩ = some x := u0
    have n1 : wx.frozen? ⟨N, 0, none⟩ = false := u1
    go_simp
    exact hK' _ _ ⟨.slice a2 T'.length c2, er, T', N, hI.stepN 12 rfl _ rfl hall (HS.out.store hHN hNq hZW hbW hBW) (fun _ _ h => h.store hHN) (hHN.set 0 _), hNq⟩
  · have e10 : c.tmps.getD 33 undef = .int .i64 er := hI.fact 10 33 rfl (listed hall 10 (by kernel_rfl))
    simp only [Array.getD_eq_getD_getElem?] at e10
    go_simp
    exact hK' _ _ ⟨sv, er, T', N, hI.step loc5a 13 8 rfl (by rw [hsz]; decide) _ _ rfl hall HS.out (fun _ _ h => h) rfl, hNq⟩
end Go.Proofs.YtjfkjnakmmkkiaaGreat

namespace Go.Proofs.YtjfkjnakmmkkiaaGreat
open Go.RowKit

theorem without_put (ps : List PropT) (nm va : ByteArray) : withoutT (putT ps ⟨nm, va⟩) nm = withoutT ps nm := by
  have h1 : eqS nm nm = true := (eqS_iff _ _).2 rfl
  unfold withoutT putT
  rw [List.filter_append, List.filter_cons, if_neg (by simp [h1])]
  show _ ++ List.filter _ (ps.drop (restT ps nm)) = _
  have h2 : ps.filter (fun p => !eqS p.name nm) = (ps.take (lowT ps nm)).filter (fun p => !eqS p.name nm) ++ (ps.drop (lowT ps nm)).filter (fun p => !eqS p.name nm) := by rw [← List.filter_append, List.take_append_drop]
  rw [h2]
  congr 1
  unfold restT
  cases hh : hasT ps nm with
  | false => simp
  | true =>
    have hlt : lowT ps nm < ps.length := by
      by_cases e : lowT ps nm < ps.length
      · exact e
      · rw [has_none (by omega)] at hh; cases hh
    have he : eqS ps[lowT ps nm].name nm = true := by rw [has_at hlt] at hh; exact hh
    have h3 : (ps.drop (lowT ps nm)).filter (fun p => !eqS p.name nm) = (ps.drop (lowT ps nm + 1)).filter (fun p => !eqS p.name nm) := by
      rw [List.drop_eq_getElem_cons hlt, List.filter_cons, if_neg (by simp [he])]
    rw [h3]; simp
theorem begin_at {T : List NodeT} (hc : checkT T = 0) {k : Nat} (hk : k < T.length) : rBeginT T (pathS T k) = ((k : Int), 0) := by
  have hp := check_parts hc
  have hf : findT T (pathS T k) = (k : Int) := by
    refine findT_yes hk (eqS_path.2 rfl) fun q hq => ?_
    cases e : eqS (pathS T q) (pathS T k) with
    | false => rfl
    | true => have := path_inj hp.2.1 (dis_check hc) (show q < T.length by omega) hk (eqS_path.1 e); omega
  unfold rBeginT
  rw [if_neg (by rw [hc]; simp), hf, if_pos (by omega)]
theorem set_to {T : List NodeT} (hc : checkT T = 0) {k : Nat} (hk : k < T.length) {nm : ByteArray} (hp : propB nm = true) {T' : List NodeT} {er : Int} (h : SetTo T k nm T' er) : (er = 3 ∧ T' = []) ∨ (er = 0 ∧ ∃ va, T' = T.set k ⟨T[k].parent, T[k].name, putT T[k].props ⟨nm, va⟩⟩) := by
  obtain ⟨va, h1, h2⟩ := h
  rw [setT_ok (begin_at hc hk), if_neg (by rw [hp]; decide)] at h1 h2
  split at h1
  · rename_i hx; rw [if_pos hx] at h2; exact .inl ⟨h1, h2⟩
  · rename_i hx; rw [if_neg hx] at h2
    refine .inr ⟨h1, va, ?_⟩
    rw [h2]; unfold setAt; rw [List.getElem?_eq_getElem hk]; rfl
theorem lProperty_ok : ∀ s ∈ lProperty, propB s = true := by decide
noncomputable def loc16O : Array Oper := (regOps (Tryz.f5.body.getD .skip) 16).getD #[]
theorem loc16 : inRow2 .any loc16O = true := by kernel_rfl
theorem loc16a : apartB loc16O = true := by kernel_rfl
theorem loc16n : loc16O.size = 18 := by kernel_rfl
def LwF (Z Y g o n cap g2 o2 cap2 k H : Nat) (pa : Option Addr) (pc : Nat) (pa2 : Option Addr) (pc2 : Nat) (ps1 ps2 : List PropT) (nm : ByteArray) (j : Nat) : Value → World → Prop := match j with
  | 0 => fun u _ => u = .pointer (some ⟨Z, 0, none⟩)
  | 1 => fun u _ => u = .slice (some ⟨g, o, none⟩) n cap
  | 2 => fun u _ => u = .int .i64 k
  | 3 => fun u _ => u = .pointer (some ⟨g, o + k * 3, none⟩)
  | 4 => fun u _ => u = .pointer (some ⟨g, o + k * 3 + 2, none⟩)
  | 5 => fun u _ => u = .slice pa ps1.length pc
  | 6 => fun u _ => u = .string nm
  | 7 => fun u w => PropRow w H u (withoutT ps1 nm)
  | 8 => fun u _ => u = .pointer (some ⟨Y, 0, none⟩)
  | 9 => fun u _ => u = .slice (some ⟨g2, o2, none⟩) n cap2
  | 10 => fun u _ => u = .int .i64 k
  | 11 => fun u _ => u = .pointer (some ⟨g2, o2 + k * 3, none⟩)
  | 12 => fun u _ => u = .pointer (some ⟨g2, o2 + k * 3 + 2, none⟩)
  | 13 => fun u _ => u = .slice pa2 ps2.length pc2
  | 14 => fun u _ => u = .string nm
  | 15 => fun u w => PropRow w H u (withoutT ps2 nm)
  | 16 => fun u w => PropRow w H u (withoutT ps1 nm)
  | 17 => fun u w => PropRow w H u (withoutT ps2 nm)
  | _ => fun _ _ => True
theorem LwF.new {Z Y g o n cap g2 o2 cap2 k H : Nat} {pa : Option Addr} {pc : Nat} {pa2 : Option Addr} {pc2 : Nat} {ps1 ps2 : List PropT} {nm : ByteArray} {w w' : World} {j : Nat} {u : Value} (h : LwF Z Y g o n cap g2 o2 cap2 k H pa pc pa2 pc2 ps1 ps2 nm j u w) (kb : Below w.heap.size w w') : LwF Z Y g o n cap g2 o2 cap2 k H pa pc pa2 pc2 ps1 ps2 nm j u w' := by
  unfold LwF at *
  split at h
  all_goals first
    | exact h
    | exact PropRow.new h kb

set_option maxHeartbeats 4000000 in
set_option maxRecDepth 100000 in
theorem loc_region16 {Q : Exit → Act → World → Prop} (Z Y g o n cap g2 o2 cap2 k H : Nat) (pa : Option Addr) (pc : Nat) (pa2 : Option Addr) (pc2 : Nat) (ps1 ps2 : List PropT) (nm : ByteArray) (W w : World) (A : Act) (hsz : A.tmps.size = 96) (hkn : k < n) (hgl : g < W.heap.size) (hgl2 : g2 < W.heap.size) (hH : H ≤ W.heap.size) (hl1 : ps1.length ≤ 1000) (hl2 : ps2.length ≤ 1000) (R1 R2 : Nat → Prop)
    (hZW : Holds W Z #[.slice (some ⟨g, o, none⟩) n cap] 25) (hYW : Holds W Y #[.slice (some ⟨g2, o2, none⟩) n cap2] 25) (q1 : W.cell? ⟨g, o + k * 3 + 2, none⟩ = some (.slice pa ps1.length pc)) (q2 : W.cell? ⟨g2, o2 + k * 3 + 2, none⟩ = some (.slice pa2 ps2.length pc2))
    (hP1 : Hid (PropsIn R1 W (.slice pa ps1.length pc) ps1)) (hP2 : Hid (PropsIn R2 W (.slice pa2 ps2.length pc2) ps2))
    (a4 : A.tmps.getD 4 undef = .pointer (some ⟨Z, 0, none⟩)) (a7 : A.tmps.getD 7 undef = .pointer (some ⟨Y, 0, none⟩)) (a5 : A.tmps.getD 5 undef = .int .i64 k) (a6 : A.tmps.getD 6 undef = .string nm)
    (hS : Below W.heap.size W w) (hQ : ∀ c w', SameBut loc16O A c → Below W.heap.size W w' → PropRow w' H (c.tmps.getD 10 undef) (withoutT ps1 nm) → PropRow w' H (c.tmps.getD 11 undef) (withoutT ps2 nm) → Q .normal c w') :
    wpAny Tryz.prog .any loc16O Q loc16O.size (Array.replicate loc16O.size false) A w := by
  refine wpAny_inv2 (fun l c wx => RInv loc16O A (LwF Z Y g o n cap g2 o2 cap2 k H pa pc pa2 pc2 ps1 ps2 nm) (fun wx => Below W.heap.size W wx) l c wx) loc16 (fun l c wx hI hl => hQ c wx hI.1 hI.2.1 (hI.fact 16 10 rfl (hl 16 (by rw [loc16n]; decide))) (hI.fact 17 11 rfl (hl 17 (by rw [loc16n]; decide)))) ?hstep _ _ _ _ (by simp) (by simp) (RInv.start hS)
  intro l c wx hI i' op ho hl hall K' hK'
  have hi13 : i' < 18 := by rw [← loc16n]; exact (Array.getElem?_eq_some_iff.1 ho).1
  simp only [loc16O, regOps, Tryz.f5, Option.getD_some, reduceIte, Nat.reduceEqDiff] at ho
  have hS := hI.2.1
  have hii : (k : Int) < n := by omega
  have hii0 : (0 : Int) ≤ k := by omega
  have s4 := (hI.slot 4 (by kernel_rfl)).trans a4
  have s7 := (hI.slot 7 (by kernel_rfl)).trans a7
  have s5 := (hI.slot 5 (by kernel_rfl)).trans a5
  have s6 := (hI.slot 6 (by kernel_rfl)).trans a6
  simp only [Array.getD_eq_getD_getElem?] at s4 s7 s5 s6
  have hic : i' = 0 ∨ i' = 1 ∨ i' = 2 ∨ i' = 3 ∨ i' = 4 ∨ i' = 5 ∨ i' = 6 ∨ i' = 7 ∨ i' = 8 ∨ i' = 9 ∨ i' = 10 ∨ i' = 11 ∨ i' = 12 ∨ i' = 13 ∨ i' = 14 ∨ i' = 15 ∨ i' = 16 ∨ i' = 17 := by omega
  rcases hic with rfl | rfl | rfl | rfl | rfl | rfl | rfl | rfl | rfl | rfl | rfl | rfl | rfl | rfl | rfl | rfl | rfl | rfl
  all_goals cases ho
  · go_simp
    exact hK' _ _ (hI.step loc16a 0 72 rfl (by rw [hsz]; decide) _ _ rfl hall hS (fun _ _ h => h) rfl)
  · have e0 : c.tmps.getD 72 undef = .pointer (some ⟨Z, 0, none⟩) := hI.fact 0 72 rfl (listed hall 0 (by kernel_rfl))
    simp only [Array.getD_eq_getD_getElem?] at e0
    have hX := (hZW.keeps (Keeps.of_fresh hS (fun _ => False)) (fun e => e)).cell 0
    go_simp
    exact hK' _ _ (hI.step loc16a 1 73 rfl (by rw [hsz]; decide) _ _ rfl hall hS (fun _ _ h => h) rfl)
  · go_simp
    exact hK' _ _ (hI.step loc16a 2 74 rfl (by rw [hsz]; decide) _ _ rfl hall hS (fun _ _ h => h) rfl)
  · have e1 : c.tmps.getD 73 undef = .slice (some ⟨g, o, none⟩) n cap := hI.fact 1 73 rfl (listed hall 1 (by kernel_rfl))
    simp only [Array.getD_eq_getD_getElem?] at e1
    have e2 : c.tmps.getD 74 undef = .int .i64 k := hI.fact 2 74 rfl (listed hall 2 (by kernel_rfl))
    simp only [Array.getD_eq_getD_getElem?] at e2
    go_simp
    exact hK' _ _ (hI.step loc16a 3 75 rfl (by rw [hsz]; decide) _ _ rfl hall hS (fun _ _ h => h) rfl)
  · have e3 : c.tmps.getD 75 undef = .pointer (some ⟨g, o + k * 3, none⟩) := hI.fact 3 75 rfl (listed hall 3 (by kernel_rfl))
    simp only [Array.getD_eq_getD_getElem?] at e3
    go_simp
    exact hK' _ _ (hI.step loc16a 4 76 rfl (by rw [hsz]; decide) _ _ rfl hall hS (fun _ _ h => h) rfl)
  · have e4 : c.tmps.getD 76 undef = .pointer (some ⟨g, o + k * 3 + 2, none⟩) := hI.fact 4 76 rfl (listed hall 4 (by kernel_rfl))
    simp only [Array.getD_eq_getD_getElem?] at e4
    have hX := (hS.cell (p := ⟨g, o + k * 3 + 2, none⟩) hgl).trans q1
    go_simp
    exact hK' _ _ (hI.step loc16a 5 77 rfl (by rw [hsz]; decide) _ _ rfl hall hS (fun _ _ h => h) rfl)
  · go_simp
    exact hK' _ _ (hI.step loc16a 6 78 rfl (by rw [hsz]; decide) _ _ rfl hall hS (fun _ _ h => h) rfl)
  · have e5 : c.tmps.getD 77 undef = .slice pa ps1.length pc := hI.fact 5 77 rfl (listed hall 5 (by kernel_rfl))
    simp only [Array.getD_eq_getD_getElem?] at e5
    have e6 : c.tmps.getD 78 undef = .string nm := hI.fact 6 78 rfl (listed hall 6 (by kernel_rfl))
    simp only [Array.getD_eq_getD_getElem?] at e6
    go_simp
    refine (ref3_Without _ (.slice pa ps1.length pc) ps1 nm wx (hP1.out.new hS) hl1).mono ?_
    rintro e w2 ⟨u, rfl, hr, hb2⟩
    go_simp
    have hS2 : Below W.heap.size W w2 := hS.trans (hb2.mono hS.size)
    exact hK' _ _ (hI.step loc16a 7 79 rfl (by rw [hsz]; decide) _ _ rfl hall hS2 (fun _ _ h => LwF.new h hb2) (hr.base (Nat.le_trans hH hS.size)))
  · go_simp
    exact hK' _ _ (hI.step loc16a 8 80 rfl (by rw [hsz]; decide) _ _ rfl hall hS (fun _ _ h => h) rfl)
  · have e8 : c.tmps.getD 80 undef = .pointer (some ⟨Y, 0, none⟩) := hI.fact 8 80 rfl (listed hall 8 (by kernel_rfl))
    simp only [Array.getD_eq_getD_getElem?] at e8
    have hX := (hYW.keeps (Keeps.of_fresh hS (fun _ => False)) (fun e => e)).cell 0
    go_simp
    exact hK' _ _ (hI.step loc16a 9 81 rfl (by rw [hsz]; decide) _ _ rfl hall hS (fun _ _ h => h) rfl)
  · go_simp
    exact hK' _ _ (hI.step loc16a 10 82 rfl (by rw [hsz]; decide) _ _ rfl hall hS (fun _ _ h => h) rfl)
  · have e9 : c.tmps.getD 81 undef = .slice (some ⟨g2, o2, none⟩) n cap2 := hI.fact 9 81 rfl (listed hall 9 (by kernel_rfl))
    simp only [Array.getD_eq_getD_getElem?] at e9
    have e10 : c.tmps.getD 82 undef = .int .i64 k := hI.fact 10 82 rfl (listed hall 10 (by kernel_rfl))
    simp only [Array.getD_eq_getD_getElem?] at e10
    go_simp
    exact hK' _ _ (hI.step loc16a 11 83 rfl (by rw [hsz]; decide) _ _ rfl hall hS (fun _ _ h => h) rfl)
  · have e11 : c.tmps.getD 83 undef = .pointer (some ⟨g2, o2 + k * 3, none⟩) := hI.fact 11 83 rfl (listed hall 11 (by kernel_rfl))
    simp only [Array.getD_eq_getD_getElem?] at e11
    go_simp
    exact hK' _ _ (hI.step loc16a 12 84 rfl (by rw [hsz]; decide) _ _ rfl hall hS (fun _ _ h => h) rfl)
  · have e12 : c.tmps.getD 84 undef = .pointer (some ⟨g2, o2 + k * 3 + 2, none⟩) := hI.fact 12 84 rfl (listed hall 12 (by kernel_rfl))
    simp only [Array.getD_eq_getD_getElem?] at e12
    have hX := (hS.cell (p := ⟨g2, o2 + k * 3 + 2, none⟩) hgl2).trans q2
    go_simp
    exact hK' _ _ (hI.step loc16a 13 85 rfl (by rw [hsz]; decide) _ _ rfl hall hS (fun _ _ h => h) rfl)
  · go_simp
    exact hK' _ _ (hI.step loc16a 14 86 rfl (by rw [hsz]; decide) _ _ rfl hall hS (fun _ _ h => h) rfl)
  · have e13 : c.tmps.getD 85 undef = .slice pa2 ps2.length pc2 := hI.fact 13 85 rfl (listed hall 13 (by kernel_rfl))
    simp only [Array.getD_eq_getD_getElem?] at e13
    have e14 : c.tmps.getD 86 undef = .string nm := hI.fact 14 86 rfl (listed hall 14 (by kernel_rfl))
    simp only [Array.getD_eq_getD_getElem?] at e14
    go_simp
    refine (ref3_Without _ (.slice pa2 ps2.length pc2) ps2 nm wx (hP2.out.new hS) hl2).mono ?_
    rintro e w2 ⟨u, rfl, hr, hb2⟩
    go_simp
    have hS2 : Below W.heap.size W w2 := hS.trans (hb2.mono hS.size)
    exact hK' _ _ (hI.step loc16a 15 87 rfl (by rw [hsz]; decide) _ _ rfl hall hS2 (fun _ _ h => LwF.new h hb2) (hr.base (Nat.le_trans hH hS.size)))
  · have hr : PropRow wx H (c.tmps.getD 79 undef) (withoutT ps1 nm) := hI.fact 7 79 rfl (listed hall 7 (by kernel_rfl))
    generalize hcu : c.tmps.getD 79 undef = rv at hr
    obtain ⟨a9, c9, hrv⟩ := row_slice hr.1
    subst hrv
    simp only [Array.getD_eq_getD_getElem?] at hcu
    go_simp
    exact hK' _ _ (hI.step loc16a 16 10 rfl (by rw [hsz]; decide) _ _ rfl hall hS (fun _ _ h => h) hr)
  · have hr : PropRow wx H (c.tmps.getD 87 undef) (withoutT ps2 nm) := hI.fact 15 87 rfl (listed hall 15 (by kernel_rfl))
    generalize hcu : c.tmps.getD 87 undef = rv at hr
    obtain ⟨a9, c9, hrv⟩ := row_slice hr.1
    subst hrv
    simp only [Array.getD_eq_getD_getElem?] at hcu
    go_simp
    exact hK' _ _ (hI.step loc16a 17 11 rfl (by rw [hsz]; decide) _ _ rfl hall hS (fun _ _ h => h) hr)
end Go.Proofs.YtjfkjnakmmkkiaaGreat

open Go
namespace Go.Proofs.YtjfkjnakmmkkiaaGreat

theorem name_sk {T U : List NodeT} (h : T.map sk = U.map sk) (i : Nat) : nameOf T i = nameOf U i := by
  have e : (T.map sk)[i]? = (U.map sk)[i]? := by rw [h]
  rw [List.getElem?_map, List.getElem?_map] at e
  unfold nameOf
  cases h1 : T[i]? <;> cases h2 : U[i]? <;> rw [h1, h2] at e <;> simp [sk] at e ⊢
  exact e.2
theorem pc_sk {T U : List NodeT} (h : T.map sk = U.map sk) (i : Nat) : pc T i = pc U i := by
  have key : ∀ f j, pathF T f j = pathF U f j := by
    intro f
    induction f with
    | zero => intro j; rfl
    | succ f ih =>
      intro j
      have e : parN T j = parN U j := by unfold parN; rw [par_sk h]
      unfold pathF
      rw [ih, e, name_sk h]
  exact key i i
theorem path_sk {T U : List NodeT} (h : T.map sk = U.map sk) (i : Nat) : pathS T i = pathS U i := by unfold pathS; rw [pc_sk h]
theorem set_sk {T : List NodeT} {k : Nat} (hk : k < T.length) (ps : List PropT) : T.map sk = (T.set k ⟨T[k].parent, T[k].name, ps⟩).map sk := by
  rw [List.map_set]
  apply List.ext_getElem?
  intro i
  by_cases e : k = i
  · subst e; rw [List.getElem?_set_self (by simpa using hk), List.getElem?_map, List.getElem?_eq_getElem hk]; rfl
  · rw [List.getElem?_set_ne e]
/-- A tree whose properties alone are others. -/
theorem props_valid {T U : List NodeT} (hc : checkT T = 0) (hs : T.map sk = U.map sk) (hl : limitsT U = true) (hpr : ∀ n ∈ U, n.props.all (fun p => propB p.name) = true) (ha : ∀ n ∈ U, ascT n.props = true) : checkT U = 0 := by
  obtain ⟨h1, h2, h3, h4, h5⟩ := check_parts hc
  refine check_of ⟨hl, named_sk T _ 0 hs hpr h2, ?_, ?_, ?_⟩
  · unfold walkedT
    rw [← len_sk hs]
    exact walked_sk hs T _ 0 _ hs ha h3
  · rw [← h4]; exact (twin_sk _ _ 0 [] hs).symm
  · rw [← h5]; exact (deep_sk hs).symm
theorem asc_pair : ∀ l : List PropT, ascT l = true ↔ l.Pairwise fun a b => ltS a.name b.name = true := by
  intro l
  constructor
  · intro h
    rw [List.pairwise_iff_getElem]
    intro i j hi hj hij
    exact asc_lt l h i j hi hj hij
  · intro h
    induction h with
    | nil => rfl
    | @cons a l ha _ ih =>
      refine asc_cons.2 ⟨fun b hb => ha b ?_, ih⟩
      exact List.mem_of_head? hb
theorem asc_without {ps : List PropT} (h : ascT ps = true) (x : ByteArray) : ascT (withoutT ps x) = true := (asc_pair _).2 (List.Pairwise.filter _ ((asc_pair _).1 h))
theorem without_mem {ps : List PropT} {x : ByteArray} {q : PropT} (h : q ∈ withoutT ps x) : q ∈ ps := (List.mem_filter.1 h).1
theorem without_self {ps : List PropT} {x : ByteArray} (ha : ascT ps = true) (h : hasT ps x = false) : withoutT ps x = ps := by
  unfold withoutT
  rw [List.filter_eq_self]
  intro p hp
  obtain ⟨j, hj, rfl⟩ := List.getElem_of_mem hp
  rw [low_only ha j hj (.inr h)]; rfl
theorem value_of {T : List NodeT} (hc : checkT T = 0) {k : Nat} (hk : k < T.length) (x : ByteArray) : valueT T (k : Int) x = ofT T[k].props x := by
  rw [of_low (check_asc hc _ (List.getElem_mem hk))]
  unfold valueT
  rw [if_neg (by rintro (h | h | h) <;> first | exact h hc | omega), Int.toNat_natCast, List.getElem?_eq_getElem hk]
  rfl
theorem put_of {ps : List PropT} (p : PropT) : ofT (putT ps p) p.name = (p.value, true) := by
  have hl := low_le ps p.name
  have hat : (putT ps p)[lowT ps p.name]? = some p := by
    unfold putT
    rw [List.getElem?_append_right (by simp; omega), List.length_take, Nat.min_eq_left hl]; simp
  obtain ⟨hk, he⟩ := List.getElem?_eq_some_iff.1 hat
  have := of_yes (x := p.name) hk (by rw [he]; exact (eqS_iff _ _).2 rfl) (fun j hj hjl => by
    have hjp : j < ps.length := by omega
    have e : (putT ps p)[j]? = some ps[j] := by
      unfold putT
      rw [List.getElem?_append_left (by simp; omega), List.getElem?_take_of_lt (by omega), List.getElem?_eq_getElem hjp]
    have e2 : (putT ps p)[j] = ps[j] := by rw [List.getElem?_eq_getElem hj] at e; exact Option.some.inj e
    rw [e2]
    exact eq_of_lt ((low_cases p.name ps).1 j hjp hjl))
  rw [this, he]
theorem put_back {ps : List PropT} {x : ByteArray} (ha : ascT ps = true) (hh : hasT ps x = true) : putT (withoutT ps x) ⟨x, (ofT ps x).1⟩ = ps := by
  have hl : lowT ps x < ps.length := by
    by_cases e : lowT ps x < ps.length
    · exact e
    · rw [has_none (by omega)] at hh; cases hh
  have hx : ps[lowT ps x].name = x := by rw [has_at hl] at hh; exact (eqS_iff _ _).1 hh
  have ho : (ofT ps x).1 = ps[lowT ps x].value := by rw [of_low ha, if_pos hh, List.getElem?_eq_getElem hl]
  rw [ho, without_del ha hh]
  have hp1 : ∀ p ∈ ps.take (lowT ps x), ltS p.name x = true := fun p hp => by
    obtain ⟨j, hj, rfl⟩ := List.getElem_of_mem hp
    rw [List.length_take] at hj
    rw [List.getElem_take]
    exact (low_cases x ps).1 j (by omega) (by omega)
  have hd : ∀ p, (ps.drop (lowT ps x + 1)).head? = some p → ltS x p.name = true := fun p hp => by
    rw [List.head?_drop] at hp
    obtain ⟨hk, rfl⟩ := List.getElem?_eq_some_iff.1 hp
    have := asc_lt ps ha (lowT ps x) (lowT ps x + 1) hl hk (by omega)
    rw [hx] at this; exact this
  have hlow : lowT (delP ps (lowT ps x)) x = lowT ps x := by
    unfold delP
    unfold lowT at hp1 ⊢
    rw [List.takeWhile_append_of_pos hp1]
    have : (ps.drop ((ps.takeWhile fun p => ltS p.name x).length + 1)).takeWhile (fun p => ltS p.name x) = [] := by
      cases hc : ps.drop ((ps.takeWhile fun p => ltS p.name x).length + 1) with
      | nil => rfl
      | cons b r =>
        have := hd b (by unfold lowT; rw [hc]; rfl)
        rw [List.takeWhile_cons, if_neg (by rw [ltS_asymm this]; decide)]
    rw [this, List.append_nil, List.length_take, Nat.min_eq_left (by have := hl; unfold lowT at this; omega)]
  have hhas : hasT (delP ps (lowT ps x)) x = false := by
    unfold hasT
    rw [hlow]
    unfold delP
    rw [List.getElem?_append_right (by simp; omega), List.length_take, Nat.min_eq_left (by omega), Nat.sub_self]
    cases hc : ps.drop (lowT ps x + 1) with
    | nil => rfl
    | cons b r => exact eq_of_gt (hd b (by rw [hc]; rfl))
  unfold putT restT
  rw [hhas, hlow, if_neg (by decide), Nat.add_zero]
  unfold delP
  have hlen : (ps.take (lowT ps x)).length = lowT ps x := by simp; omega
  rw [List.take_append_of_le_length (by omega), List.take_of_length_le (by omega), List.drop_append_of_le_length (by omega), List.drop_of_length_le (by omega), List.nil_append]
  have e : (⟨x, ps[lowT ps x].value⟩ : PropT) = ps[lowT ps x] := by
    cases h : ps[lowT ps x] with
    | mk n v => rw [h] at hx; simp only at hx; rw [hx]
  rw [e, ← List.drop_eq_getElem_cons hl, List.take_append_drop]
/-- Setting and deleting again. -/
theorem undo_set {T : List NodeT} (hc : checkT T = 0) {k : Nat} (hk : k < T.length) {q v : ByteArray} (he : (setT T (pathS T k) q v).2 = 0) :
    checkT (setT T (pathS T k) q v).1 = 0 ∧ rFindT (setT T (pathS T k) q v).1 (pathS T k) = ((k : Int), true) ∧ valueT (setT T (pathS T k) q v).1 (k : Int) q = (v, true) ∧
      ∃ Z, deleteT (setT T (pathS T k) q v).1 (pathS T k) q = (Z, 0) ∧ ((valueT T (k : Int) q).2 = false → Z = T) ∧ ((valueT T (k : Int) q).2 = true → setT Z (pathS T k) q (valueT T (k : Int) q).1 = (T, 0)) := by
  have hok := setT_ok (name := q) (value := v) (begin_of hc hk)
  have hv := set_valid he
  have hpq : propB q = true := by
    cases e : propB q with
    | true => rfl
    | false => rw [hok, if_pos e] at he; cases he
  rw [if_neg (by rw [hpq]; decide)] at hok
  have hY : setT T (pathS T k) q v = (setAt T k ⟨q, v⟩, 0) := by
    by_cases e : limitsT (setAt T k ⟨q, v⟩) = false
    · rw [hok, if_pos e] at he; cases he
    · rw [hok, if_neg e]
  rw [hY] at hv ⊢
  have hset : setAt T k ⟨q, v⟩ = T.set k ⟨T[k].parent, T[k].name, putT T[k].props ⟨q, v⟩⟩ := by unfold setAt; rw [List.getElem?_eq_getElem hk]; rfl
  have hs := setAt_sk T k ⟨q, v⟩
  have hkY : k < (setAt T k ⟨q, v⟩).length := by rw [hv.2]; exact hk
  have hpath : pathS (setAt T k ⟨q, v⟩) k = pathS T k := (path_sk hs k).symm
  have hpr : (setAt T k ⟨q, v⟩)[k].props = putT T[k].props ⟨q, v⟩ := by simp only [hset]; rw [List.getElem_set_self]
  have hasc := check_asc hc _ (List.getElem_mem hk)
  have hval : valueT (setAt T k ⟨q, v⟩) (k : Int) q = (v, true) := by rw [value_of hv.1 hkY, hpr]; exact put_of ⟨q, v⟩
  have hhas : hasT (setAt T k ⟨q, v⟩)[k].props q = true := by
    rw [← of_snd (check_asc hv.1 _ (List.getElem_mem hkY)), hpr, put_of ⟨q, v⟩]
  refine ⟨hv.1, by rw [← hpath]; exact rfind_of hv.1 hkY, hval, T.set k ⟨T[k].parent, T[k].name, withoutT T[k].props q⟩, ?_, ?_, ?_⟩
  · rw [← hpath, delete_ok hkY (begin_of hv.1 hkY), if_neg (by rw [hhas]; decide)]
    have e1 : (setAt T k ⟨q, v⟩)[k].parent = T[k].parent := by simp only [hset]; rw [List.getElem_set_self]
    have e2 : (setAt T k ⟨q, v⟩)[k].name = T[k].name := by simp only [hset]; rw [List.getElem_set_self]
    rw [e1, e2, hpr, without_put]
    congr 1
    simp only [hset]
    rw [List.set_set]
  · intro hw
    rw [value_of hc hk, of_snd hasc] at hw
    rw [without_self hasc hw]
    exact List.set_getElem_self hk
  · intro hw
    rw [value_of hc hk] at hw ⊢
    rw [of_snd hasc] at hw
    have hs2 := set_sk hk (withoutT T[k].props q)
    have hmem : ∀ n ∈ T.set k ⟨T[k].parent, T[k].name, withoutT T[k].props q⟩, n ∈ T ∨ n.props = withoutT T[k].props q := fun n hn => by
      rcases List.mem_or_eq_of_mem_set hn with h | h
      · exact .inl h
      · rw [h]; exact .inr rfl
    have hp := check_parts hc
    have hfit : ∀ n ∈ T, fitB n = true := by
      have h1 := hp.1
      unfold limitsT at h1
      rw [Bool.and_eq_true, List.all_eq_true] at h1
      exact h1.2
    have hprs : ∀ n ∈ T, n.props.all (fun p => propB p.name) = true := fun n hn => by
      obtain ⟨i, hi, rfl⟩ := List.getElem_of_mem hn
      exact (named_at T 0 hp.2.1 i hi).2
    have hZ : checkT (T.set k ⟨T[k].parent, T[k].name, withoutT T[k].props q⟩) = 0 := by
      refine props_valid hc hs2 ?_ (fun n hn => ?_) (fun n hn => ?_)
      · have h1 := hp.1
        unfold limitsT at h1 ⊢
        rw [Bool.and_eq_true] at h1
        rw [List.length_set, h1.1, Bool.true_and, List.all_eq_true]
        intro n hn
        rcases hmem n hn with h | h
        · exact hfit n h
        · have hf := hfit T[k] (List.getElem_mem hk)
          unfold fitB at hf ⊢
          rw [Bool.and_eq_true, decide_eq_true_iff, List.all_eq_true] at hf
          rw [h, Bool.and_eq_true, decide_eq_true_iff, List.all_eq_true]
          exact ⟨Nat.le_trans (List.length_filter_le _ _) hf.1, fun p hp => hf.2 p (without_mem hp)⟩
      · rcases hmem n hn with h | h
        · exact hprs n h
        · rw [h, List.all_eq_true]
          exact fun p hp => List.all_eq_true.1 (hprs T[k] (List.getElem_mem hk)) p (without_mem hp)
      · rcases hmem n hn with h | h
        · exact check_asc hc n h
        · rw [h]; exact asc_without hasc q
    have hkZ : k < (T.set k ⟨T[k].parent, T[k].name, withoutT T[k].props q⟩).length := by rw [List.length_set]; exact hk
    have hback : setAt (T.set k ⟨T[k].parent, T[k].name, withoutT T[k].props q⟩) k ⟨q, (ofT T[k].props q).1⟩ = T := by
      unfold setAt
      rw [List.getElem?_eq_getElem hkZ]
      simp only [List.getElem_set_self]
      unfold setNode
      simp only [List.set_set]
      rw [put_back hasc hw]
      exact List.set_getElem_self hk
    have hok2 := setT_ok (name := q) (value := (ofT T[k].props q).1) (begin_of hZ hkZ)
    rw [path_sk hs2 k, hok2, if_neg (by rw [hpq]; decide), hback, if_neg (by rw [hp.1]; decide)]
end Go.Proofs.YtjfkjnakmmkkiaaGreat
