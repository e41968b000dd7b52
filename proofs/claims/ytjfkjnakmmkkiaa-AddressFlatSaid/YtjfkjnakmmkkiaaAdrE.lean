/- Contracts of address: fits, regions. -/
import Derived.Test.YtjfkjnakmmkkiaaAdrD
import Derived.StillTailTactics
namespace Go.Proofs.Ytjfkjnakmmkkiaa
open Go.RowKit

def fitsB (b s : Int) : Bool := decide (s ≤ 4611686018427387903 - b)

set_option maxHeartbeats 400000 in
theorem address_fits (b s : Int) (w : World) (hb0 : 0 ≤ b) (hb1 : b ≤ 4611686018427387903) :
    Calls Try.prog 79 #[.int .i64 b, .int .i64 s] w fun e w' => e = .returned (.bool (fitsB b s)) ∧ w = w' := by
  go_enter Try.func79, Try.ntmps79
  go_wp2_with fail
  go_ret
  exact ⟨ret_bool (by unfold fitsB; rfl), rfl⟩

def nmReg : ByteArray := ⟨#[114, 101, 103]⟩
def regF : List (List Int) → Option (List (Int × Int))
  | [] => some []
  | r :: rs => if fitsB (r.getD 0 0) (r.getD 1 0) = true then (regF rs).map ((r.getD 0 0, r.getD 1 0) :: ·) else none
def regE (o : Option (List (Int × Int))) : List (Int × Int) × Int := match o with
  | none => ([], 2)
  | some l => (l, 0)
def regionsT (T : List NodeT) (k : Nat) : List (Int × Int) × Int :=
  if k = 0 then ([], 0) else
    let c := pairT T (parOf T k)
    if c.2.2 ≠ 0 then ([], c.2.2) else
      let r := rowsT (valueT T k nmReg).1 [c.1, c.2.1]
      if r.2 ≠ 0 then ([], r.2) else regE (regF r.1)
theorem countV_bd (v : ByteArray × Bool) (h : (countV v).2 = true) : (countV v).1 = 1 ∨ (countV v).1 = 2 := by
  unfold countV at h ⊢
  split
  · exact .inl rfl
  · rename_i h1
    rw [if_neg h1] at h
    split
    · rename_i h2; rw [if_pos h2] at h; cases h
    · rename_i h2
      simp only [not_or] at h2
      obtain ⟨_, _, h3, h4⟩ := h2
      simp only
      omega
theorem pairT_bd (T : List NodeT) (node : Int) (h : (pairT T node).2.2 = 0) : ((pairT T node).1 = 1 ∨ (pairT T node).1 = 2) ∧ ((pairT T node).2.1 = 1 ∨ (pairT T node).2.1 = 2) := by
  unfold pairT at h ⊢
  by_cases c : (countT T node nmAC).2 = false ∨ (countT T node nmSC).2 = false
  · rw [if_pos c] at h; simp at h
  · rw [if_neg c]
    simp only [not_or, Bool.not_eq_false] at c
    exact ⟨countV_bd _ c.1, countV_bd _ c.2⟩
theorem rowF_spec : ∀ (ws l : List Int) (q : List Int × List Int), (∀ x ∈ l, 0 ≤ x ∧ x ≤ 4294967295) → rowF ws l = some q → q.1.length = ws.length ∧ (∀ x ∈ q.1, 0 ≤ x ∧ x ≤ 4611686018427387903) ∧ ∀ x ∈ q.2, 0 ≤ x ∧ x ≤ 4294967295 := by
  intro ws
  induction ws with
  | nil => intro l q hl h; simp [rowF] at h; subst h; exact ⟨rfl, by simp, hl⟩
  | cons w ws ih =>
    intro l q hl h
    have hd : 0 ≤ l.headD 0 ∧ l.headD 0 ≤ 4294967295 := by
      cases l with
      | nil => simp
      | cons a b => exact hl a (by simp)
    have hg : 0 ≤ l.getD 1 0 ∧ l.getD 1 0 ≤ 4294967295 := by
      match l with
      | [] => simp
      | [_] => simp
      | a :: b :: r => exact hl b (by simp)
    simp only [rowF] at h
    by_cases hw : w = 2
    · rw [if_pos hw] at h
      by_cases hb : 1073741823 < l.headD 0
      · rw [if_pos hb] at h; cases h
      · rw [if_neg hb, Option.map_eq_some_iff] at h
        obtain ⟨p, hp, rfl⟩ := h
        obtain ⟨h1, h2, h3⟩ := ih _ _ (fun x hx => hl x (List.mem_of_mem_drop hx)) hp
        refine ⟨by simp [h1], ?_, h3⟩
        intro x hx
        rcases List.mem_cons.1 hx with rfl | hx
        · omega
        · exact h2 x hx
    · rw [if_neg hw, Option.map_eq_some_iff] at h
      obtain ⟨p, hp, rfl⟩ := h
      obtain ⟨h1, h2, h3⟩ := ih _ _ (fun x hx => hl x (List.mem_of_mem_drop hx)) hp
      refine ⟨by simp [h1], ?_, h3⟩
      intro x hx
      rcases List.mem_cons.1 hx with rfl | hx
      · omega
      · exact h2 x hx
theorem rowsF_spec (ws : List Int) : ∀ (f : Nat) (l : List Int) (rs : List (List Int)), (∀ x ∈ l, 0 ≤ x ∧ x ≤ 4294967295) → rowsF ws f l = some rs → rs.length ≤ f ∧ ∀ r ∈ rs, r.length = ws.length ∧ ∀ x ∈ r, 0 ≤ x ∧ x ≤ 4611686018427387903 := by
  intro f
  induction f with
  | zero => intro l rs _ h; simp [rowsF] at h; subst h; simp
  | succ f ih =>
    intro l rs hl h
    simp only [rowsF] at h
    by_cases hz : l = []
    · rw [if_pos hz] at h; simp at h; subst h; simp
    · rw [if_neg hz, Option.bind_eq_some_iff] at h
      obtain ⟨q, hq, h⟩ := h
      rw [Option.map_eq_some_iff] at h
      obtain ⟨rs', hrs, rfl⟩ := h
      obtain ⟨h1, h2, h3⟩ := rowF_spec ws l q hl hq
      obtain ⟨h4, h5⟩ := ih q.2 rs' h3 hrs
      refine ⟨by simp; omega, ?_⟩
      intro r hr
      rcases List.mem_cons.1 hr with rfl | hr
      · exact ⟨h1, h2⟩
      · exact h5 r hr
theorem rowsT_spec (v : ByteArray) (ws : List Int) : (rowsT v ws).1.length ≤ v.size ∧ ∀ r ∈ (rowsT v ws).1, r.length = ws.length ∧ ∀ x ∈ r, 0 ≤ x ∧ x ≤ 4611686018427387903 := by
  unfold rowsT
  split
  · simp
  · cases h : rowsF ws (cellsT v).length (cellsT v) with
    | none => simp [rowsE]
    | some rs =>
      obtain ⟨h1, h2⟩ := rowsF_spec ws _ _ rs (cellsT_bd v) h
      have := cellsT_len v
      exact ⟨by simp only [rowsE]; omega, h2⟩
end Go.Proofs.Ytjfkjnakmmkkiaa
