/- Contracts of address: where a window is found. -/
import Derived.Test.YtjfkjnakmmkkiaaAdrH
namespace Go.Proofs.Ytjfkjnakmmkkiaa
open Go.RowKit

def inWinB (b s : Int) (p : Int × Int × Int) : Bool := decide (p.1 ≤ b) && decide (b - p.1 ≤ p.2.2 - max s 1)
def findW (b s : Int) (l : List (Int × Int × Int)) : Int := match l.findIdx? (inWinB b s) with
  | some i => i
  | none => -1
def WinOk (p : Int × Int × Int) : Prop := 0 ≤ p.1 ∧ 0 ≤ p.2.1 ∧ 0 ≤ p.2.2 ∧ p.1 + p.2.2 ≤ 4611686018427387903 ∧ p.2.1 + p.2.2 ≤ 4611686018427387903
theorem winF_ok : ∀ (rs : List (List Int)) (l : List (Int × Int × Int)), (∀ r ∈ rs, r.length = 3 ∧ ∀ x ∈ r, 0 ≤ x ∧ x ≤ 4611686018427387903) → winF rs = some l → l.length = rs.length ∧ ∀ p ∈ l, WinOk p := by
  intro rs
  induction rs with
  | nil => intro l _ h; simp [winF] at h; subst h; simp
  | cons r rs ih =>
    intro l hr h
    simp only [winF] at h
    by_cases c : fitsB (r.getD 0 0) (r.getD 2 0) = true ∧ fitsB (r.getD 1 0) (r.getD 2 0) = true
    · rw [if_pos c, Option.map_eq_some_iff] at h
      obtain ⟨l', hl, rfl⟩ := h
      obtain ⟨h1, h2⟩ := ih l' (fun q hq => hr q (by simp [hq])) hl
      refine ⟨by simp [h1], ?_⟩
      intro p hp
      rcases List.mem_cons.1 hp with rfl | hp
      · obtain ⟨hl3, hb⟩ := hr r (by simp)
        match r, hl3 with
        | [x, y, z], _ =>
          have bx := hb x (by simp)
          have bY := hb y (by simp)
          have bz := hb z (by simp)
          obtain ⟨c1, c2⟩ := c
          unfold fitsB at c1 c2
          simp at c1 c2
          unfold WinOk
          simp only [List.getD, List.getElem?_cons_zero, List.getElem?_cons_succ, Option.getD_some]
          omega
      · exact h2 p hp
    · rw [if_neg c] at h; cases h
theorem windowsT_ok (T : List NodeT) (k : Nat) : (windowsT T k).1.length ≤ 1000 ∧ ∀ p ∈ (windowsT T k).1, WinOk p := by
  have hvs := valueT_size T k nmRanges
  unfold windowsT
  simp only
  split
  · simp
  · split
    · simp
    · split
      · simp
      · split
        · simp
        · have hsp := rowsT_spec (valueT T k nmRanges).1 [(pairT T k).1, (pairT T (parOf T k)).1, (pairT T k).2.1]
          generalize rowsT (valueT T k nmRanges).1 [(pairT T k).1, (pairT T (parOf T k)).1, (pairT T k).2.1] = R at hsp
          obtain ⟨h1, h2⟩ := hsp
          cases h : winF R.1 with
          | none => simp [winE]
          | some l =>
            obtain ⟨h3, h4⟩ := winF_ok R.1 l h2 h
            simp only [winE]
            exact ⟨by omega, h4⟩
theorem tri_cells_at {w : World} {base : Nat} {T : TypeId} {v : Value} {l : List (Int × Int × Int)} (h : w.ownsRow base T 3 v l.length (triCells l)) (k : Nat) (hk : k < l.length) :
    ∃ g cap, v = .slice (some ⟨g, 0, none⟩) l.length cap ∧ l.length ≤ cap ∧ g < w.heap.size ∧ base ≤ g ∧ w.cell? ⟨g, k * 3, none⟩ = some (.int .i64 l[k].1) ∧ w.cell? ⟨g, k * 3 + 1, none⟩ = some (.int .i64 l[k].2.1) ∧ w.cell? ⟨g, k * 3 + 2, none⟩ = some (.int .i64 l[k].2.2) := by
  rcases h.2 with ⟨_, h0⟩ | ⟨g, cap, cur, rfl, hb, hh, hcap, hr⟩
  · omega
  · have key : ∀ (l : List (Int × Int × Int)) (k : Nat) (hk : k < l.length) (j : Nat), j < 3 → (triCells l)[k * 3 + j]? = [Value.int .i64 l[k].1, .int .i64 l[k].2.1, .int .i64 l[k].2.2][j]? := by
      intro l
      induction l with
      | nil => intro k hk; simp at hk
      | cons a l ih =>
        intro k hk j hj
        rw [show triCells (a :: l) = [.int .i64 a.1, .int .i64 a.2.1, .int .i64 a.2.2] ++ triCells l from by simp [triCells]]
        cases k with
        | zero => rw [List.getElem?_append_left (by simp; omega)]; simp
        | succ k =>
          rw [List.getElem?_append_right (by simp; omega)]
          have := ih k (by simpa using hk) j hj
          rw [show (k + 1) * 3 + j - [Value.int .i64 a.1, .int .i64 a.2.1, .int .i64 a.2.2].length = k * 3 + j from by simp; omega]
          simpa using this
    have cc : ∀ j, j < 3 → ∀ u, [Value.int .i64 l[k].1, .int .i64 l[k].2.1, .int .i64 l[k].2.2][j]? = some u → w.cell? ⟨g, k * 3 + j, none⟩ = some u := by
      intro j hj u hu
      have hc := h.cells (g := g) rfl (k * 3 + j) u (by rw [key l k hk j hj]; exact hu)
      have hadd : (⟨g, 0, none⟩ : Addr).add (k * 3 + j) = ⟨g, k * 3 + j, none⟩ := by unfold Addr.add; split <;> simp_all
      rwa [hadd] at hc
    exact ⟨g, cap, rfl, hcap, lt_of_block hh, hb, cc 0 (by omega) _ rfl, cc 1 (by omega) _ rfl, cc 2 (by omega) _ rfl⟩

set_option maxHeartbeats 1000000 in
theorem address_inWin (p : Int × Int × Int) (b s : Int) (rb : Nat) (w : World) (hR : Holds w rb #[.int .i64 b, .int .i64 s] 37) (hp : WinOk p) (hb0 : 0 ≤ b) (hb1 : b ≤ 4611686018427387903) (hs0 : 0 ≤ s) (hs1 : s ≤ 4611686018427387903) :
    Calls Try.prog 81 #[.agg #[.int .i64 p.1, .int .i64 p.2.1, .int .i64 p.2.2], .pointer (some ⟨rb, 0, none⟩)] w fun e w' => e = .returned (.bool (inWinB b s p)) ∧ Below w.heap.size w w' := by
  obtain ⟨h1, h2, h3, h4, h5⟩ := hp
  have c0 := hR.cell 0
  have c1 := hR.cell 1
  have hlt := hR.lt
  have hI := Lib.hid (show inWinB b s p = (decide (p.1 ≤ b) && decide (b - p.1 ≤ p.2.2 - max s 1)) from rfl)
  by_cases hc : p.1 ≤ b
  · have hcd := Lib.hid (show decide (p.1 ≤ b) = true from by simpa using hc)
    go_enter Try.func81, Try.ntmps81
    go_wp2_with fail
    go_ret
    exact ⟨ret_bool (by rw [hI.out, hcd.out]; simp), (Below.refl _ _).alloc (Nat.le_refl _) _⟩
  · have hc' : b < p.1 := by omega
    have hcd := Lib.hid (show decide (p.1 ≤ b) = false from by simpa using hc')
    go_enter Try.func81, Try.ntmps81
    go_wp2_with fail
    go_ret
    exact ⟨ret_bool (by rw [hI.out, hcd.out]; rfl), (Below.refl _ _).alloc (Nat.le_refl _) _⟩

theorem enters_inWin : ∀ args w, (callFunc 81 args).run Try.prog w = .ok (.enter 81 args) w := enters_of Try.func81 (by kernel_rfl) rfl

set_option maxHeartbeats 1000000 in
theorem wins_IndexFunc (B : Nat) (v : Value) (l : List (Int × Int × Int)) (b s : Int) (rb : Nat) (w : World) (hown : w.ownsRow B 123 3 v l.length (triCells l)) (hR : Holds w rb #[.int .i64 b, .int .i64 s] 37)
    (hl : l.length ≤ 1000) (hp : ∀ p ∈ l, WinOk p) (hb0 : 0 ≤ b) (hb1 : b ≤ 4611686018427387903) (hs0 : 0 ≤ s) (hs1 : s ≤ 4611686018427387903) :
    Calls Try.prog 80 #[v, .func (.func 81) #[] #[.pointer (some ⟨rb, 0, none⟩)]] w
      fun e w' => e = .returned (.int .i64 (findW b s l)) ∧ Below w.heap.size w w' := by
  obtain ⟨a, cap, rfl⟩ := owns_slice hown
  have HO := Lib.hid hown; clear hown
  have HR := Lib.hid hR; clear hR
  have HPP := Lib.hid hp; clear hp
  have eg := enters_inWin
  go_enter Try.func80, Try.ntmps80
  go_wp2_with fail
  go_loopg [8] (l.length) (fun f x wr => ∃ k : Nat, x = .int .i64 k ∧ k ≤ l.length ∧ l.length ≤ k + f ∧ Hid (∀ i (h : i < l.length), i < k → inWinB b s l[i] = false) ∧ Below w.heap.size w wr)
  case atStart => exact ⟨0, rfl, by omega, by omega, fun i h h2 => absurd h2 (by omega), Below.refl _ _⟩
  case round =>
    obtain ⟨k, rfl, hk, hf, hN, hb⟩ := hrel
    have hbs := hb.size
    by_cases hlt : k < l.length
    · have hKw : Keeps (fun _ => False) w wr := Keeps.of_fresh hb _
      obtain ⟨g, cp, e1, hcp, hg, _, c0, c1, c2⟩ := tri_cells_at (ownsRow_keeps HO.out hKw (fun _ _ e => e)) k hlt
      cases e1
      have hin := fun wx hx => address_inWin l[k] b s rb wx hx (HPP.out l[k] (List.getElem_mem hlt)) hb0 hb1 hs0 hs1
      have hR1 := HR.out.keeps hKw (fun e => e)
      cases hy : inWinB b s l[k] with
      | true =>
        rw [hy] at hin
        have HIN := Lib.hid hin; clear hin
        have hfin := Lib.hid (show findW b s l = k from by
          unfold findW
          have : l.findIdx? (inWinB b s) = some k := by
            rw [List.findIdx?_eq_some_iff_getElem]
            exact ⟨hlt, hy, fun j hj => by have := hN.out j (by omega) hj; rw [this]; simp⟩
          rw [this])
        clear hy hKw
        go_wp2_with fail
        refine (HIN.out _ (by exact hR1)).mono ?_
        rintro e w' ⟨rfl, hb'⟩
        go_wp2_with fail
        go_ret
        exact ⟨ret_int (by rw [hfin.out]), hb.trans (hb'.mono hbs)⟩
      | false =>
        rw [hy] at hin
        have HIN := Lib.hid hin; clear hin
        have HY := Lib.hid hy
        clear hy hKw
        go_wp2_with fail
        refine (HIN.out _ (by exact hR1)).mono ?_
        rintro e w' ⟨rfl, hb'⟩
        go_wp2_with fail
        go_roundg (gk - 1)
        case measure => omega
        case rel =>
          refine ⟨k + 1, by go_num, by omega, by omega, ?_, hb.trans (hb'.mono hbs)⟩
          intro i hi hik
          by_cases e : i = k
          · subst e; exact HY.out
          · exact hN.out i hi (by omega)
    · have hfin := Lib.hid (show findW b s l = -1 from by
        unfold findW
        have : l.findIdx? (inWinB b s) = none := by
          rw [List.findIdx?_eq_none_iff]
          intro x hx
          obtain ⟨i, hi, e⟩ := List.getElem_of_mem hx
          rw [← e]; exact hN.out i hi (by omega)
        rw [this])
      go_wp2_with fail
      go_ret
      exact ⟨ret_int (by rw [hfin.out]), hb⟩
end Go.Proofs.Ytjfkjnakmmkkiaa
