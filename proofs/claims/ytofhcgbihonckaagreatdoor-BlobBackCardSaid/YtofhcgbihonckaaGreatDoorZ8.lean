/- Contracts of print: the numbers of a value. | Contracts of address: count, cells. | address.rows: rows of numbers. | The contract of rows of address. -/
import Derived.Test.YtofhcgbihonckaaGreatDoorZ6
import Derived.Test.YtofhcgbihonckaaGreatDoorZ7
import Derived.Deep.RegionLaw
import Derived.Deep.AppendLies
import Derived.Deep.RegionHeld3

set_option linter.unusedVariables false
set_option linter.unusedSimpArgs false
set_option linter.unusedSectionVars false

namespace Go.Proofs.YtofhcgbihonckaaGreatDoor
open Go.RowKit

def cellsF : List UInt8 → List Int
  | a :: b :: c :: d :: r => wordT a b c d :: cellsF r
  | _ => []
def cellsOkB (s : ByteArray) : Bool := decide (s.size ≠ 0) && decide (s.size % 4 = 0)
def cellsT (s : ByteArray) : List Int := if cellsOkB s = true then cellsF s.data.toList else []
def intCells (l : List Int) : List Value := l.map (Value.int .i64)
theorem drop_one (s : ByteArray) (k : Nat) (h : k < s.size) : s.data.toList.drop k = s[k] :: s.data.toList.drop (k + 1) := drop_cons s k h
theorem cellsF_step (z : ByteArray) (h : 4 ≤ z.size) : cellsF z.data.toList = wordT (z[0]'(by omega)) (z[1]'(by omega)) (z[2]'(by omega)) (z[3]'(by omega)) :: cellsF (z.data.toList.drop 4) := by
  have e0 := drop_cons z 0 (by omega)
  rw [List.drop_zero] at e0
  rw [e0, drop_cons z 1 (by omega), drop_cons z 2 (by omega), drop_cons z 3 (by omega)]
  rfl
theorem toList_nil_size (s : ByteArray) : s.toList = [] ↔ s.size = 0 := by
  rw [ByteArray.toList_eq]
  constructor
  · intro h; have := congrArg List.length h; simpa using this
  · intro h; exact List.eq_nil_of_length_eq_zero (by simpa using h)
theorem infoInt : (Tryz.prog.info? 3).map (fun i => (i.zero, i.size, i.bytes)) = some (some (.int .i64 0), 1, 8) := by kernel_rfl
def CellsPost (s : ByteArray) (w : World) (e : Ending) (w' : World) : Prop :=
  ∃ v, e = .returned (.tuple #[v, .bool (cellsOkB s)]) ∧ w'.ownsRow w.heap.size 3 1 v (cellsT s).length (intCells (cellsT s)) ∧ Below w.heap.size w w'
theorem owns_slice {w : World} {base : Nat} {e : TypeId} {size : Nat} {v : Value} {n : Nat} {xs : List Value} (h : w.ownsRow base e size v n xs) : ∃ a cap, v = .slice a n cap := by
  rcases h.2 with ⟨rfl, rfl⟩ | ⟨g, cap, cur, rfl, _⟩
  · exact ⟨none, 0, rfl⟩
  · exact ⟨_, _, rfl⟩

end Go.Proofs.YtofhcgbihonckaaGreatDoor

namespace Go.Proofs.YtofhcgbihonckaaGreatDoor
open Go.RowKit

theorem fit_value {T : List NodeT} (h : checkT T = 0) (n : NodeT) (hn : n ∈ T) (p : PropT) (hp : p ∈ n.props) : p.value.size ≤ 256 := by
  have := check_limits h
  unfold limitsT at this
  simp only [Bool.and_eq_true, List.all_eq_true] at this
  have := this.2 _ hn
  unfold fitB at this
  simp only [Bool.and_eq_true, List.all_eq_true, decide_eq_true_eq] at this
  exact this.2 p hp
theorem valueT_size (T : List NodeT) (node : Int) (x : ByteArray) : (valueT T node x).1.size ≤ 256 := by
  unfold valueT
  split
  · simp
  · rename_i h
    have hc : checkT T = 0 := Decidable.byContradiction (fun e => h (.inl e))
    split
    · simp
    · rename_i n hn
      split
      · split
        · rename_i p hp
          exact fit_value hc n (List.mem_of_getElem? hn) p (List.mem_of_getElem? hp)
        · simp
      · simp
/-- How many cells does a property say? -/
def countV (v : ByteArray × Bool) : Int × Bool :=
  if v.2 = false then (1, true) else if cellsOkB v.1 = false ∨ (cellsT v.1).length ≠ 1 ∨ (cellsT v.1).headD 0 < 1 ∨ 2 < (cellsT v.1).headD 0 then (0, false) else ((cellsT v.1).headD 0, true)
def countT (T : List NodeT) (node : Int) (x : ByteArray) : Int × Bool := countV (valueT T node x)
theorem cellsF_len : ∀ (n : Nat) (l : List UInt8), l.length ≤ n → (cellsF l).length * 4 ≤ l.length := by
  intro n
  induction n with
  | zero => intro l h; have : l = [] := List.length_eq_zero_iff.1 (by omega); subst this; simp [cellsF]
  | succ n ih =>
    intro l h
    match l with
    | [] => simp [cellsF]
    | [_] => simp [cellsF]
    | [_, _] => simp [cellsF]
    | [_, _, _] => simp [cellsF]
    | a :: b :: c :: d :: r =>
      have := ih r (by simp at h; omega)
      simp only [cellsF, List.length_cons] at *
      omega
theorem cellsT_len (s : ByteArray) : (cellsT s).length * 4 ≤ s.size := by
  unfold cellsT
  split
  · have := cellsF_len _ s.data.toList (Nat.le_refl _); simpa using this
  · simp
theorem ints_at {w : World} {base : Nat} {T : TypeId} {v : Value} {l : List Int} (h : w.ownsRow base T 1 v l.length (intCells l)) (hl : 0 < l.length) :
    ∃ g cap, v = .slice (some ⟨g, 0, none⟩) l.length cap ∧ l.length ≤ cap ∧ base ≤ g ∧ g < w.heap.size ∧ ∀ (i : Nat) (hi : i < l.length), w.cell? ⟨g, i, none⟩ = some (.int .i64 l[i]) := by
  rcases h.2 with ⟨_, h0⟩ | ⟨g, cap, cur, rfl, hb, hh, hcap, hr⟩
  · omega
  · refine ⟨g, cap, rfl, hcap, hb, lt_of_block hh, fun i hi => ?_⟩
    have hc := h.cells (g := g) rfl i (.int .i64 l[i]) (by simp [intCells, hi])
    have hadd : (⟨g, 0, none⟩ : Addr).add i = ⟨g, i, none⟩ := by unfold Addr.add; split <;> simp_all
    rwa [hadd] at hc

def nmAC : ByteArray := ⟨#[35, 97, 100, 100, 114, 101, 115, 115, 45, 99, 101, 108, 108, 115]⟩
def nmSC : ByteArray := ⟨#[35, 115, 105, 122, 101, 45, 99, 101, 108, 108, 115]⟩
/-- The numbers of cells of a node of a valid tree. -/
def pairT (T : List NodeT) (node : Int) : Int × Int × Int :=
  if (countT T node nmAC).2 = false ∨ (countT T node nmSC).2 = false then (0, 0, 26) else ((countT T node nmAC).1, (countT T node nmSC).1, 0)

end Go.Proofs.YtofhcgbihonckaaGreatDoor

namespace Go.Proofs.YtofhcgbihonckaaGreatDoor
open Go.RowKit

def rowF : List Int → List Int → Option (List Int × List Int)
  | [], l => some ([], l)
  | w :: ws, l =>
    if w = 2 then (if 1073741823 < l.headD 0 then none else (rowF ws (l.drop 2)).map fun q => ((l.headD 0 * 4294967296 + l.getD 1 0) :: q.1, q.2))
    else (rowF ws (l.drop 1)).map fun q => (l.headD 0 :: q.1, q.2)
def rowsF (ws : List Int) : Nat → List Int → Option (List (List Int))
  | 0, _ => some []
  | f + 1, l => if l = [] then some [] else (rowF ws l).bind fun q => (rowsF ws f q.2).map (q.1 :: ·)
def sumT (ws : List Int) : Int := ws.foldl (· + ·) 0
def rowsE (o : Option (List (List Int))) : List (List Int) × Int := match o with
  | none => ([], 2)
  | some rs => (rs, 0)
def rowsT (v : ByteArray) (ws : List Int) : List (List Int) × Int :=
  if (v.size : Int) % (4 * sumT ws) ≠ 0 then ([], 26) else rowsE (rowsF ws (cellsT v).length (cellsT v))
theorem sumT_snoc (ws : List Int) (x : Int) : sumT (ws ++ [x]) = sumT ws + x := by simp [sumT]
theorem sumT_cons (ws : List Int) (x : Int) : sumT (x :: ws) = x + sumT ws := by
  have key : ∀ (l : List Int) (a : Int), l.foldl (· + ·) a = a + l.foldl (· + ·) 0 := by
    intro l
    induction l with
    | nil => intro a; simp
    | cons y l ih => intro a; simp only [List.foldl_cons]; rw [ih (a + y), ih (0 + y)]; omega
  unfold sumT
  rw [List.foldl_cons, key]; omega
theorem cellsF_bd : ∀ (n : Nat) (l : List UInt8), l.length ≤ n → ∀ x ∈ cellsF l, 0 ≤ x ∧ x ≤ 4294967295 := by
  intro n
  induction n with
  | zero => intro l h x hx; have : l = [] := List.length_eq_zero_iff.1 (by omega); subst this; simp [cellsF] at hx
  | succ n ih =>
    intro l h x hx
    match l with
    | [] => simp [cellsF] at hx
    | [_] => simp [cellsF] at hx
    | [_, _] => simp [cellsF] at hx
    | [_, _, _] => simp [cellsF] at hx
    | a :: b :: c :: d :: r =>
      simp only [cellsF, List.mem_cons] at hx
      rcases hx with rfl | hx
      · exact wordT_bd a b c d
      · exact ih r (by simp at h; omega) x hx
theorem cellsT_bd (s : ByteArray) : ∀ x ∈ cellsT s, 0 ≤ x ∧ x ≤ 4294967295 := by
  unfold cellsT
  split
  · exact cellsF_bd _ _ (Nat.le_refl _)
  · intro x hx; simp at hx
theorem cellsF_eq : ∀ (n : Nat) (l : List UInt8), l.length ≤ n → l.length % 4 = 0 → (cellsF l).length * 4 = l.length := by
  intro n
  induction n with
  | zero => intro l h _; have : l = [] := List.length_eq_zero_iff.1 (by omega); subst this; simp [cellsF]
  | succ n ih =>
    intro l h h4
    match l with
    | [] => simp [cellsF]
    | [_] => simp at h4
    | [_, _] => simp at h4
    | [_, _, _] => simp at h4
    | a :: b :: c :: d :: r =>
      have := ih r (by simp at h; omega) (by simp at h4; omega)
      simp only [cellsF, List.length_cons] at *
      omega
theorem cellsT_eq (s : ByteArray) (h : s.size % 4 = 0) : (cellsT s).length * 4 = s.size := by
  unfold cellsT
  split
  · have := cellsF_eq _ s.data.toList (Nat.le_refl _) (by simpa using h); simpa using this
  · rename_i h2
    unfold cellsOkB at h2
    simp [h] at h2
    simp [h2]

/-- A slice of numbers, its cells below block G. -/
def ListAt (G : Nat) (w : World) (v : Value) (l : List Int) : Prop :=
  ∃ (a : Option Addr) (cap : Nat), v = .slice a l.length cap ∧ l.length ≤ cap ∧ cap ≤ 9223372036854775807 ∧
    (0 < l.length → ∃ g o, a = some ⟨g, o, none⟩ ∧ g < G ∧ ∀ (i : Nat) (h : i < l.length), w.cell? ⟨g, o + i, none⟩ = some (.int .i64 l[i]))
theorem ListAt.keeps {G : Nat} {w w' : World} {v : Value} {l : List Int} (h : ListAt G w v l) (k : Below G w w') : ListAt G w' v l := by
  obtain ⟨a, cap, e, h1, h2, h3⟩ := h
  refine ⟨a, cap, e, h1, h2, fun h0 => ?_⟩
  obtain ⟨g, o, ea, hg, hc⟩ := h3 h0
  exact ⟨g, o, ea, hg, fun i hi => (k.cell (p := ⟨g, o + i, none⟩) hg).trans (hc i hi)⟩
/-- Rows of different element types lie apart. -/
theorem owns_apart {w : World} {b1 b2 : Nat} {e1 e2 : TypeId} {s1 s2 : Nat} {v1 v2 : Value} {n1 n2 : Nat} {x1 x2 : List Value} (h1 : w.ownsRow b1 e1 s1 v1 n1 x1) (h2 : w.ownsRow b2 e2 s2 v2 n2 x2) (hne : e1 ≠ e2) : v1.ownBlock = none ∨ v1.ownBlock ≠ v2.ownBlock := by
  rcases h1.2 with ⟨rfl, _⟩ | ⟨g1, c1, cur1, rfl, _, hh1, _⟩
  · exact .inl rfl
  · rcases h2.2 with ⟨rfl, _⟩ | ⟨g2, c2, cur2, rfl, _, hh2, _⟩
    · right; simp [Value.ownBlock]
    · right
      simp only [Value.ownBlock]
      intro e
      simp at e
      subst e
      rw [hh1] at hh2
      simp at hh2
      exact hne hh2.2
/-- A slice of rows of numbers. -/
def RowsAt (w : World) (B : Nat) (v : Value) (rs : List (List Int)) : Prop :=
  ∃ rvs : List Value, w.ownsRow B 22 1 v rs.length rvs ∧ rvs.length = rs.length ∧ ∀ (i : Nat) (h : i < rs.length) (h2 : i < rvs.length), w.ownsRow B 3 1 rvs[i] rs[i].length (intCells rs[i])
theorem RowsAt.keeps {w w' : World} {B : Nat} {v : Value} {rs : List (List Int)} (h : RowsAt w B v rs) (k : Keeps (fun _ => False) w w') : RowsAt w' B v rs := by
  obtain ⟨rvs, h1, h2, h3⟩ := h
  exact ⟨rvs, ownsRow_keeps h1 k (fun _ _ e => e), h2, fun i a b => ownsRow_keeps (h3 i a b) k (fun _ _ e => e)⟩
theorem or_wide (a b : Int) (h0 : 0 ≤ a) (h1 : a ≤ 1073741823) (h2 : 0 ≤ b) (h3 : b ≤ 4294967295) : IntKind.i64.wrap (a * 4294967296) = a * 4294967296 ∧ bits .or .i64 (a * 4294967296) b = a * 4294967296 + b := by
  obtain ⟨x, rfl⟩ := Int.eq_ofNat_of_zero_le h0
  obtain ⟨y, rfl⟩ := Int.eq_ofNat_of_zero_le h2
  have e := or_add 32 (x * 4294967296) y (by omega) ⟨x, by omega⟩ (by omega)
  simp only [Int.natCast_add, Int.natCast_mul, show ((4294967296 : Nat) : Int) = 4294967296 from rfl] at e
  exact ⟨IntWalk.i64_in _ (by omega), e⟩
theorem infoRow : (Tryz.prog.info? 22).map (fun i => (i.zero, i.size, i.bytes)) = some (some (.slice none 0 0), 1, 24) := by kernel_rfl
end Go.Proofs.YtofhcgbihonckaaGreatDoor

namespace Go.Proofs.YtofhcgbihonckaaGreatDoor
open Go.RowKit

def RowsPost (v : ByteArray) (ws : List Int) (w : World) (e : Ending) (w' : World) : Prop :=
  ∃ rv, e = .returned (.tuple #[rv, .int .i64 (rowsT v ws).2]) ∧ RowsAt w' w.heap.size rv (rowsT v ws).1 ∧ Below w.heap.size w w'
theorem ownsRow_base' {w : World} {base base' : Nat} {e : TypeId} {size : Nat} {v : Value} {n : Nat} {xs : List Value} (h : w.ownsRow base e size v n xs) (hb : base' ≤ base) : w.ownsRow base' e size v n xs := by
  refine ⟨h.1, ?_⟩
  rcases h.2 with hn | ⟨g, cap, cur, rfl, hg, r⟩
  · exact .inl hn
  · exact .inr ⟨g, cap, cur, rfl, by omega, r⟩
theorem rowsAt_nil (w : World) (B : Nat) : RowsAt w B (.slice none 0 0) [] := ⟨[], World.ownsRow_nil _ _ _ _, rfl, fun i h => by simp at h⟩
theorem sum_pos {ws : List Int} (h : ∀ x ∈ ws, x = 1 ∨ x = 2) : (ws.length : Int) ≤ sumT ws ∧ sumT ws ≤ 2 * ws.length := by
  induction ws with
  | nil => simp [sumT]
  | cons x ws ih =>
    have := ih (fun y hy => h y (by simp [hy]))
    have hx := h x (by simp)
    rw [sumT_cons]
    simp only [List.length_cons]
    omega

end Go.Proofs.YtofhcgbihonckaaGreatDoor
