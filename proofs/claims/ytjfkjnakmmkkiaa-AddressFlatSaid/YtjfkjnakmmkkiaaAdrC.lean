/- address.rows: rows of numbers. -/
import Derived.Test.YtjfkjnakmmkkiaaAdrB
namespace Go.Proofs.Ytjfkjnakmmkkiaa
open Go.RowKit

def rowF : List Int → List Int → Option (List Int × List Int)
  | [], l => some ([], l)
  | w :: ws, l =>
    if w = 2 then (if 1073741823 < l.headD 0 then none else (rowF ws (l.drop 2)).map fun q => ((l.headD 0 * 4294967296 + l.getD 1 0) :: q.1, q.2))
    else (rowF ws (l.drop 1)).map fun q => (l.headD 0 :: q.1, q.2)
def rowsF (ws : List Int) : Nat → List Int → Option (List (List Int))
  | 0, _ => some []
  | f + 1, l => if l = [] then some [] else (rowF ws l).bind fun q => (rowsF ws f q.2).map (q.1 :: ·)
def sumT (ws : List Int) : Int := ws.foldl (· + ·) 0
def rowsE (o : Option (List (List Int))) : List (List Int) × Int := match o with
  | none => ([], 2)
  | some rs => (rs, 0)
def rowsT (v : ByteArray) (ws : List Int) : List (List Int) × Int :=
  if (v.size : Int) % (4 * sumT ws) ≠ 0 then ([], 26) else rowsE (rowsF ws (cellsT v).length (cellsT v))
theorem sumT_snoc (ws : List Int) (x : Int) : sumT (ws ++ [x]) = sumT ws + x := by simp [sumT]
theorem sumT_cons (ws : List Int) (x : Int) : sumT (x :: ws) = x + sumT ws := by
  have key : ∀ (l : List Int) (a : Int), l.foldl (· + ·) a = a + l.foldl (· + ·) 0 := by
    intro l
    induction l with
    | nil => intro a; simp
    | cons y l ih => intro a; simp only [List.foldl_cons]; rw [ih (a + y), ih (0 + y)]; omega
  unfold sumT
  rw [List.foldl_cons, key]; omega
theorem cellsF_bd : ∀ (n : Nat) (l : List UInt8), l.length ≤ n → ∀ x ∈ cellsF l, 0 ≤ x ∧ x ≤ 4294967295 := by
  intro n
  induction n with
  | zero => intro l h x hx; have : l = [] := List.length_eq_zero_iff.1 (by omega); subst this; simp [cellsF] at hx
  | succ n ih =>
    intro l h x hx
    match l with
    | [] => simp [cellsF] at hx
    | [_] => simp [cellsF] at hx
    | [_, _] => simp [cellsF] at hx
    | [_, _, _] => simp [cellsF] at hx
    | a :: b :: c :: d :: r =>
      simp only [cellsF, List.mem_cons] at hx
      rcases hx with rfl | hx
      · exact wordT_bd a b c d
      · exact ih r (by simp at h; omega) x hx
theorem cellsT_bd (s : ByteArray) : ∀ x ∈ cellsT s, 0 ≤ x ∧ x ≤ 4294967295 := by
  unfold cellsT
  split
  · exact cellsF_bd _ _ (Nat.le_refl _)
  · intro x hx; simp at hx
theorem cellsF_eq : ∀ (n : Nat) (l : List UInt8), l.length ≤ n → l.length % 4 = 0 → (cellsF l).length * 4 = l.length := by
  intro n
  induction n with
  | zero => intro l h _; have : l = [] := List.length_eq_zero_iff.1 (by omega); subst this; simp [cellsF]
  | succ n ih =>
    intro l h h4
    match l with
    | [] => simp [cellsF]
    | [_] => simp at h4
    | [_, _] => simp at h4
    | [_, _, _] => simp at h4
    | a :: b :: c :: d :: r =>
      have := ih r (by simp at h; omega) (by simp at h4; omega)
      simp only [cellsF, List.length_cons] at *
      omega
theorem cellsT_eq (s : ByteArray) (h : s.size % 4 = 0) : (cellsT s).length * 4 = s.size := by
  unfold cellsT
  split
  · have := cellsF_eq _ s.data.toList (Nat.le_refl _) (by simpa using h); simpa using this
  · rename_i h2
    unfold cellsOkB at h2
    simp [h] at h2
    simp [h2]

/-- A slice of numbers, its cells below block G. -/
def ListAt (G : Nat) (w : World) (v : Value) (l : List Int) : Prop :=
  ∃ (a : Option Addr) (cap : Nat), v = .slice a l.length cap ∧ l.length ≤ cap ∧ cap ≤ 9223372036854775807 ∧
    (0 < l.length → ∃ g o, a = some ⟨g, o, none⟩ ∧ g < G ∧ ∀ (i : Nat) (h : i < l.length), w.cell? ⟨g, o + i, none⟩ = some (.int .i64 l[i]))
theorem ListAt.keeps {G : Nat} {w w' : World} {v : Value} {l : List Int} (h : ListAt G w v l) (k : Below G w w') : ListAt G w' v l := by
  obtain ⟨a, cap, e, h1, h2, h3⟩ := h
  refine ⟨a, cap, e, h1, h2, fun h0 => ?_⟩
  obtain ⟨g, o, ea, hg, hc⟩ := h3 h0
  exact ⟨g, o, ea, hg, fun i hi => (k.cell (p := ⟨g, o + i, none⟩) hg).trans (hc i hi)⟩
/-- Rows of different element types lie apart. -/
theorem owns_apart {w : World} {b1 b2 : Nat} {e1 e2 : TypeId} {s1 s2 : Nat} {v1 v2 : Value} {n1 n2 : Nat} {x1 x2 : List Value} (h1 : w.ownsRow b1 e1 s1 v1 n1 x1) (h2 : w.ownsRow b2 e2 s2 v2 n2 x2) (hne : e1 ≠ e2) : v1.ownBlock = none ∨ v1.ownBlock ≠ v2.ownBlock := by
  rcases h1.2 with ⟨rfl, _⟩ | ⟨g1, c1, cur1, rfl, _, hh1, _⟩
  · exact .inl rfl
  · rcases h2.2 with ⟨rfl, _⟩ | ⟨g2, c2, cur2, rfl, _, hh2, _⟩
    · right; simp [Value.ownBlock]
    · right
      simp only [Value.ownBlock]
      intro e
      simp at e
      subst e
      rw [hh1] at hh2
      simp at hh2
      exact hne hh2.2
/-- A slice of rows of numbers. -/
def RowsAt (w : World) (B : Nat) (v : Value) (rs : List (List Int)) : Prop :=
  ∃ rvs : List Value, w.ownsRow B 22 1 v rs.length rvs ∧ rvs.length = rs.length ∧ ∀ (i : Nat) (h : i < rs.length) (h2 : i < rvs.length), w.ownsRow B 3 1 rvs[i] rs[i].length (intCells rs[i])
theorem RowsAt.keeps {w w' : World} {B : Nat} {v : Value} {rs : List (List Int)} (h : RowsAt w B v rs) (k : Keeps (fun _ => False) w w') : RowsAt w' B v rs := by
  obtain ⟨rvs, h1, h2, h3⟩ := h
  exact ⟨rvs, ownsRow_keeps h1 k (fun _ _ e => e), h2, fun i a b => ownsRow_keeps (h3 i a b) k (fun _ _ e => e)⟩
theorem or_wide (a b : Int) (h0 : 0 ≤ a) (h1 : a ≤ 1073741823) (h2 : 0 ≤ b) (h3 : b ≤ 4294967295) : IntKind.i64.wrap (a * 4294967296) = a * 4294967296 ∧ bits .or .i64 (a * 4294967296) b = a * 4294967296 + b := by
  obtain ⟨x, rfl⟩ := Int.eq_ofNat_of_zero_le h0
  obtain ⟨y, rfl⟩ := Int.eq_ofNat_of_zero_le h2
  have e := or_add 32 (x * 4294967296) y (by omega) ⟨x, by omega⟩ (by omega)
  simp only [Int.natCast_add, Int.natCast_mul, show ((4294967296 : Nat) : Int) = 4294967296 from rfl] at e
  exact ⟨IntWalk.i64_in _ (by omega), e⟩
theorem infoRow : (Try.prog.info? 22).map (fun i => (i.zero, i.size, i.bytes)) = some (some (.slice none 0 0), 1, 24) := by kernel_rfl
end Go.Proofs.Ytjfkjnakmmkkiaa
