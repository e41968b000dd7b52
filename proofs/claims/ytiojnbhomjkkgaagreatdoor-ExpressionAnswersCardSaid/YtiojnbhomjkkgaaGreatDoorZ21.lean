/- Plain laws: how far a reader of expressions goes; how long tokens are. | Plain laws: how much fuel a reader of expressions needs. | Expressions put together of pieces, in plain Lean: what is read of them. -/
import Derived.Test.YtiojnbhomjkkgaaGreatDoorZ18
import Derived.Test.YtiojnbhomjkkgaaGreatDoorZ8

set_option linter.unusedVariables false
set_option linter.unusedSimpArgs false
set_option linter.unusedSectionVars false

namespace Go.Proofs.YtiojnbhomjkkgaaGreatDoor
open Go.RowKit

theorem sgn_kind {L : List (Int × ByteArray × Int)} {i : Nat} (h : sgnT L i ≠ ⟨#[]⟩) : ∃ t, L[i]? = some t ∧ t.1 = 4 := by
  unfold sgnT at h
  cases e : L[i]? with
  | none => rw [e] at h; exact absurd rfl h
  | some t =>
    rw [e] at h
    refine ⟨t, rfl, ?_⟩
    by_cases ht : t.1 = 4
    · exact ht
    · exact absurd (by show (if t.1 = 4 then _ else _) = _; rw [if_neg ht]) h
/-- All tokens from i to j are signs or numbers. -/
def Run (L : List (Int × ByteArray × Int)) (i j : Nat) : Prop := i ≤ j ∧ ∀ m, i ≤ m → m < j → ∃ t, L[m]? = some t ∧ (t.1 = 4 ∨ t.1 = 2)
theorem Run.refl (L : List (Int × ByteArray × Int)) (i : Nat) : Run L i i := ⟨Nat.le_refl _, fun m h1 h2 => by omega⟩
theorem Run.one {L : List (Int × ByteArray × Int)} {i : Nat} {t : Int × ByteArray × Int} (h : L[i]? = some t) (k : t.1 = 4 ∨ t.1 = 2) : Run L i (i + 1) :=
  ⟨by omega, fun m h1 h2 => by obtain rfl : m = i := by omega
                               exact ⟨t, h, k⟩⟩
theorem Run.trans {L : List (Int × ByteArray × Int)} {i j k : Nat} (h : Run L i j) (h2 : Run L j k) : Run L i k :=
  ⟨Nat.le_trans h.1 h2.1, fun m h3 h4 => by
    rcases Nat.lt_or_ge m j with c | c
    · exact h.2 m h3 c
    · exact h2.2 m c h4⟩
theorem Run.sgn {L : List (Int × ByteArray × Int)} {i : Nat} (h : sgnT L i ≠ ⟨#[]⟩) : Run L i (i + 1) := by
  obtain ⟨t, h1, h2⟩ := sgn_kind h
  exact .one h1 (.inl h2)
theorem un_ne {s : ByteArray} (h : unB s = true) : s ≠ ⟨#[]⟩ := by rintro rfl; exact absurd h (by decide)
theorem row_ne {k : Nat} {s : ByteArray} {f : Nat} (h : rowN k s = some f) : s ≠ ⟨#[]⟩ := by
  rintro rfl
  rcases Nat.lt_or_ge k 10 with c | c
  · rw [rows_nil k c] at h; cases h
  · unfold rowN at h
    rw [show rowsX.getD k [] = [] from by rw [List.getD_eq_getElem?_getD, List.getElem?_eq_none (by simpa [rowsX] using c)]; rfl] at h
    cases h
theorem ev_run (L : List (Int × ByteArray × Int)) : ∀ (n : Nat) (W : Wh) (d i : Nat) (q : Int × Nat × Bool × Bool × Bool), evT L n W d i = some (some q) → Run L i q.2.1 := by
  intro n
  induction n with
  | zero => intro W d i q h; simp [evT] at h
  | succ n ih =>
    intro W d i q h
    cases W with
    | prim =>
      simp only [evT] at h
      by_cases hp : sgnT L i = ⟨#[40]⟩
      · rw [if_pos hp] at h
        obtain ⟨r, hr, e⟩ := Option.map_eq_some_iff.1 h
        cases r with
        | none => simp at e
        | some r =>
          have h1 := ih _ _ _ _ hr
          simp only [Option.bind_some] at e
          by_cases hc : sgnT L r.2.1 = ⟨#[41]⟩
          · rw [if_pos hc] at e
            obtain rfl := Option.some.inj e
            exact ((Run.sgn (by rw [hp]; decide)).trans h1).trans (Run.sgn (by rw [hc]; decide))
          · rw [if_neg hc] at e; cases e
      · rw [if_neg hp] at h
        cases e : L[i]? with
        | none => rw [e] at h; cases h
        | some t =>
          rw [e] at h
          have h' : (if t.1 = 2 then some (t.2.2 % 4294967296, i + 1, decide (8 < d), decide (t.2.2 < 0) || decide (4294967295 < t.2.2), false) else none) = some q := Option.some.inj h
          by_cases ht : t.1 = 2
          · rw [if_pos ht] at h'
            obtain rfl := Option.some.inj h'
            exact .one e (.inr ht)
          · rw [if_neg ht] at h'; cases h'
    | opnd =>
      simp only [evT] at h
      by_cases hp : unB (sgnT L i) = true
      · rw [if_pos hp] at h
        obtain ⟨r, hr, e⟩ := Option.map_eq_some_iff.1 h
        cases r with
        | none => simp at e
        | some r =>
          have h1 := ih _ _ _ _ hr
          obtain rfl := Option.some.inj e
          exact (Run.sgn (un_ne hp)).trans h1
      · rw [if_neg hp] at h
        exact ih _ _ _ _ h
    | lvl k =>
      cases k with
      | zero => simp only [evT] at h; exact ih _ _ _ _ h
      | succ k =>
        rw [evT] at h
        obtain ⟨r, hr, e⟩ := Option.bind_eq_some_iff.1 h
        cases r with
        | none => simp at e
        | some r =>
          obtain ⟨r2, hr2, e2⟩ := Option.map_eq_some_iff.1 e
          cases r2 with
          | none => simp at e2
          | some r2 =>
            have h1 := ih _ _ _ _ hr2
            obtain rfl := Option.some.inj e2
            exact (ih _ _ _ _ hr).trans h1
    | loop k v =>
      rw [evT] at h
      cases hr : rowN k (sgnT L i) with
      | none =>
        rw [hr] at h
        obtain rfl := Option.some.inj (Option.some.inj h)
        exact .refl _ _
      | some f =>
        rw [hr] at h
        obtain ⟨r, h1, e⟩ := Option.bind_eq_some_iff.1 h
        cases r with
        | none => simp at e
        | some r =>
          obtain ⟨r2, hr2, e2⟩ := Option.map_eq_some_iff.1 e
          cases r2 with
          | none => simp at e2
          | some r2 =>
            have h3 := ih _ _ _ _ hr2
            obtain rfl := Option.some.inj e2
            exact ((Run.sgn (row_ne hr)).trans (ih _ _ _ _ h1)).trans h3
    | whole =>
      rw [evT] at h
      obtain ⟨r, hr, e⟩ := Option.bind_eq_some_iff.1 h
      cases r with
      | none => simp at e
      | some r =>
        have e' : (if sgnT L r.2.1 = ⟨#[63]⟩ then _ else _) = _ := e
        by_cases hs : sgnT L r.2.1 = ⟨#[63]⟩
        · rw [if_pos hs] at e'
          obtain ⟨y, hy, ey⟩ := Option.bind_eq_some_iff.1 e'
          cases y with
          | none => simp at ey
          | some y =>
            have ey' : (if sgnT L y.2.1 = ⟨#[58]⟩ then _ else _) = _ := ey
            by_cases hc : sgnT L y.2.1 = ⟨#[58]⟩
            · rw [if_pos hc] at ey'
              obtain ⟨z, hz, ez⟩ := Option.map_eq_some_iff.1 ey'
              cases z with
              | none => simp at ez
              | some z =>
                have h3 := ih _ _ _ _ hz
                obtain rfl := Option.some.inj ez
                exact ((((ih _ _ _ _ hr).trans (Run.sgn (by rw [hs]; decide))).trans (ih _ _ _ _ hy)).trans (Run.sgn (by rw [hc]; decide))).trans h3
            · rw [if_neg hc] at ey'; cases ey'
        · rw [if_neg hs] at e'
          obtain rfl := Option.some.inj (Option.some.inj e')
          exact ih _ _ _ _ hr
theorem rd_run {L : List (Int × ByteArray × Int)} {W : Wh} {d i : Nat} {q : Int × Nat × Bool × Bool × Bool} (h : Rd L W d i (some q)) : Run L i q.2.1 := by
  obtain ⟨n, h⟩ := h; exact ev_run L n W d i q h
/-- In front of a token that is neither, reading ends. -/
theorem rd_before {L : List (Int × ByteArray × Int)} {W : Wh} {d i : Nat} {q : Int × Nat × Bool × Bool × Bool} {t : Int × ByteArray × Int} (h : Rd L W d i (some q)) {k : Nat} (ht : L[k]? = some t) (h8 : t.1 = 8) (hik : i ≤ k) : q.2.1 ≤ k := by
  rcases Nat.lt_or_ge k q.2.1 with c | c
  · obtain ⟨u, hu, hk⟩ := (rd_run h).2 k hik c
    rw [ht] at hu
    obtain rfl := Option.some.inj hu
    omega
  · exact c

/-- A token as the reader of expressions sees it. -/
def tkX (t : Tok) : Int × ByteArray × Int := (t.kind, ⟨t.text.toArray⟩, t.value)
theorem qtA_text : ∀ (f : Nat) (l acc : List UInt8) (i : Nat), (qtA f l acc i).1.length ≤ acc.length + l.length := by
  intro f
  induction f with
  | zero => intro l acc i; simp [qtA]
  | succ f ih =>
    intro l acc i
    cases l with
    | nil => simp [qtA]
    | cons c r =>
      simp only [qtA]
      split
      · simp
      · split
        · simp
        · split
          · split
            · simp
            · have := ih (r.drop (esc r).2.1) (acc ++ [(esc r).1.toNat.toUInt8]) (i + (esc r).2.1 + 1)
              simp only [List.length_append, List.length_cons, List.length_nil, List.length_drop] at this ⊢
              omega
          · have := ih r (acc ++ [c]) (i + 1)
            simp only [List.length_append, List.length_cons, List.length_nil] at this ⊢
            omega
theorem nextT_text (l : List UInt8) : (nextT l).1.text.length ≤ l.length := by
  have hs : (if signN l > 0 then ((⟨4, l.take (signN l), 0, 0, 0⟩ : Tok), signN l, (0 : Int)) else (⟨0, [], 0, 0, 0⟩, 0, 20)).1.text.length ≤ l.length := by
    split
    · simp [List.length_take]; omega
    · simp
  unfold nextT
  simp only []
  split
  · split
    · simp [List.length_take]; omega
    · split
      · simp [List.length_take]; omega
      · simp
  · split
    · simp
    · split
      · have := qtA_text l.length (l.drop 1) [] 1
        simp only [List.length_nil, List.length_drop] at this
        show (qtA l.length (l.drop 1) [] 1).1.length ≤ _
        omega
      · split
        · simp [List.length_take]; omega
        · split
          · split
            · simp [List.length_take]; omega
            · exact hs
          · exact hs
theorem rdA_text (file : Int) (N : Nat) : ∀ (f : Nat) (l : List UInt8) (p : Int × Int) (acc : List Tok), l.length ≤ N → acc.length ≤ 6000 → (∀ t ∈ acc, t.text.length ≤ N) →
    (∀ t ∈ (rdA file f l p acc).1, t.text.length ≤ N) ∧ (rdA file f l p acc).1.length ≤ 6001 ∧ ((rdA file f l p acc).2.2 = 0 → ∃ ts t, (rdA file f l p acc).1 = ts ++ [t] ∧ t.kind = 8) := by
  intro f
  induction f with
  | zero => intro l p acc _ _ _; simp [rdA]
  | succ f ih =>
    intro l p acc hl ha ht
    rw [rdA]
    simp only []
    split
    · simp
    · split
      · simp
      · split
        · refine ⟨?_, by simp; omega, fun _ => ⟨_, _, rfl, rfl⟩⟩
          intro t h
          rcases List.mem_append.1 h with h | h
          · exact ht t h
          · rw [List.mem_singleton.1 h]; simp
        · split
          · rename_i hn
            exact ⟨by simp, by simp, fun e => absurd e hn⟩
          · rename_i hn _ _
            refine ih _ _ _ (by simp; omega) (by simp; omega) ?_
            intro t h
            rcases List.mem_append.1 h with h | h
            · exact ht t h
            · rw [List.mem_singleton.1 h]
              have := nextT_text (l.drop (blk l.length l).1)
              simp only [List.length_drop] at this
              show (nextT (l.drop (blk l.length l).1)).1.text.length ≤ N
              omega
theorem readT_text (l : List UInt8) (file : Int) : (∀ t ∈ (readT l file).1, t.text.length ≤ 16000) ∧ (readT l file).1.length ≤ 6001 ∧ ((readT l file).2.2 = 0 → ∃ ts t, (readT l file).1 = ts ++ [t] ∧ t.kind = 8) := by
  unfold readT
  split
  · simp
  · exact rdA_text file 16000 _ l (1, 1) [] (by omega) (by simp) (by simp)
end Go.Proofs.YtiojnbhomjkkgaaGreatDoor

namespace Go.Proofs.YtiojnbhomjkkgaaGreatDoor
open Go.RowKit

def fuelW : Wh → Nat
  | .prim => 1
  | .opnd => 2
  | .lvl k => 2 * k + 3
  | .loop k _ => 2 * k + 4
  | .whole => 30
def okW : Wh → Prop
  | .lvl k => k ≤ 10
  | .loop k _ => k < 10
  | _ => True
def isLoop : Wh → Bool
  | .loop _ _ => true
  | _ => false
theorem sgn_lt {L : List (Int × ByteArray × Int)} {i : Nat} (h : sgnT L i ≠ ⟨#[]⟩) : i < L.length := sgn_in h
theorem ev_total (L : List (Int × ByteArray × Int)) : ∀ (n : Nat) (W : Wh) (d i : Nat), okW W → 40 * (L.length - i) + fuelW W ≤ n →
    ∃ r, evT L n W d i = some r ∧ ∀ q, r = some q → i ≤ q.2.1 ∧ (isLoop W = false → i < q.2.1) := by
  intro n
  induction n with
  | zero => intro W d i _ h; cases W <;> simp [fuelW] at h
  | succ n ih =>
    intro W d i hk h
    cases W with
    | prim =>
      rw [evT]
      simp only [fuelW] at h
      by_cases hp : sgnT L i = ⟨#[40]⟩
      · have hlt := sgn_lt (i := i) (by rw [hp]; decide)
        obtain ⟨r, hr, hq⟩ := ih .whole (d + 1) (i + 1) trivial (by simp only [fuelW]; omega)
        rw [if_pos hp, hr]
        refine ⟨_, rfl, fun q e => ?_⟩
        cases r with
        | none => cases e
        | some r =>
          have e' : (if sgnT L r.2.1 = ⟨#[41]⟩ then some (r.1, r.2.1 + 1, r.2.2) else none) = some q := e
          have := (hq r rfl).2 rfl
          split at e'
          · obtain rfl := Option.some.inj e'
            exact ⟨by show i ≤ r.2.1 + 1; omega, fun _ => by show i < r.2.1 + 1; omega⟩
          · cases e'
      · rw [if_neg hp]
        refine ⟨_, rfl, fun q e => ?_⟩
        cases ht : L[i]? with
        | none => rw [ht] at e; cases e
        | some t =>
          rw [ht] at e
          have e' : (if t.1 = 2 then some (t.2.2 % 4294967296, i + 1, decide (8 < d), decide (t.2.2 < 0) || decide (4294967295 < t.2.2), false) else none) = some q := e
          split at e'
          · obtain rfl := Option.some.inj e'
            exact ⟨by show i ≤ i + 1; omega, fun _ => by show i < i + 1; omega⟩
          · cases e'
    | opnd =>
      rw [evT]
      simp only [fuelW] at h
      by_cases hp : unB (sgnT L i) = true
      · have hlt := sgn_lt (i := i) (un_ne hp)
        obtain ⟨r, hr, hq⟩ := ih .opnd d (i + 1) trivial (by simp only [fuelW]; omega)
        rw [if_pos hp, hr]
        refine ⟨_, rfl, fun q e => ?_⟩
        cases r with
        | none => cases e
        | some r =>
          obtain rfl := Option.some.inj e
          have := (hq r rfl).2 rfl
          exact ⟨by show i ≤ r.2.1; omega, fun _ => by show i < r.2.1; omega⟩
      · rw [if_neg hp]
        obtain ⟨r, hr, hq⟩ := ih .prim d i trivial (by simp only [fuelW]; omega)
        exact ⟨r, hr, fun q e => ⟨(hq q e).1, fun _ => (hq q e).2 rfl⟩⟩
    | lvl k =>
      simp only [fuelW] at h
      cases k with
      | zero =>
        rw [evT]
        obtain ⟨r, hr, hq⟩ := ih .opnd d i trivial (by simp only [fuelW]; omega)
        exact ⟨r, hr, fun q e => ⟨(hq q e).1, fun _ => (hq q e).2 rfl⟩⟩
      | succ k =>
        have hk2 : k + 1 ≤ 10 := hk
        rw [evT]
        obtain ⟨r, hr, hq⟩ := ih (.lvl k) d i (show k ≤ 10 by omega) (by simp only [fuelW]; omega)
        rw [hr]
        cases r with
        | none => exact ⟨none, rfl, fun q e => by cases e⟩
        | some q =>
          have hlt := (hq q rfl).2 rfl
          obtain ⟨r2, hr2, hq2⟩ := ih (.loop k q.1) d q.2.1 (show k < 10 by omega) (by simp only [fuelW]; omega)
          refine ⟨_, by show Option.map _ _ = _; rw [hr2]; rfl, fun q2 e => ?_⟩
          cases r2 with
          | none => cases e
          | some r2 =>
            obtain rfl := Option.some.inj e
            have := (hq2 r2 rfl).1
            exact ⟨by show i ≤ r2.2.1; omega, fun _ => by show i < r2.2.1; omega⟩
    | loop k v =>
      simp only [fuelW] at h
      have hk2 : k < 10 := hk
      rw [evT]
      cases hr : rowN k (sgnT L i) with
      | none => exact ⟨_, rfl, fun q e => by obtain rfl := Option.some.inj e; exact ⟨Nat.le_refl _, fun e => by cases e⟩⟩
      | some f =>
        have hlt := sgn_lt (i := i) (row_ne hr)
        obtain ⟨r, hr1, hq⟩ := ih (.lvl k) d (i + 1) (show k ≤ 10 by omega) (by simp only [fuelW]; omega)
        show ∃ r, Option.bind _ _ = some r ∧ _
        rw [hr1]
        cases r with
        | none => exact ⟨none, rfl, fun q e => by cases e⟩
        | some q =>
          have hlt2 := (hq q rfl).2 rfl
          obtain ⟨r2, hr2, hq2⟩ := ih (.loop k (appT f v (if divB f q.1 = true then 1 else q.1))) d q.2.1 hk2 (by simp only [fuelW]; omega)
          refine ⟨_, by show Option.map _ _ = _; rw [hr2]; rfl, fun q2 e => ?_⟩
          cases r2 with
          | none => cases e
          | some r2 =>
            obtain rfl := Option.some.inj e
            have := (hq2 r2 rfl).1
            exact ⟨by show i ≤ r2.2.1; omega, fun e => by cases e⟩
    | whole =>
      simp only [fuelW] at h
      rw [evT]
      obtain ⟨r, hr, hq⟩ := ih (.lvl 10) d i (show 10 ≤ 10 by omega) (by simp only [fuelW]; omega)
      rw [hr]
      cases r with
      | none => exact ⟨none, rfl, fun q e => by cases e⟩
      | some q =>
        have hlt := (hq q rfl).2 rfl
        show ∃ r, (if sgnT L q.2.1 = ⟨#[63]⟩ then _ else _) = some r ∧ _
        by_cases hs : sgnT L q.2.1 = ⟨#[63]⟩
        · have hs2 := sgn_lt (i := q.2.1) (by rw [hs]; decide)
          rw [if_pos hs]
          obtain ⟨y, hy, hyq⟩ := ih .whole d (q.2.1 + 1) trivial (by simp only [fuelW]; omega)
          rw [hy]
          cases y with
          | none => exact ⟨none, rfl, fun q e => by cases e⟩
          | some y =>
            have hly := (hyq y rfl).2 rfl
            show ∃ r, (if sgnT L y.2.1 = ⟨#[58]⟩ then _ else _) = some r ∧ _
            by_cases hc : sgnT L y.2.1 = ⟨#[58]⟩
            · rw [if_pos hc]
              obtain ⟨z, hz, hzq⟩ := ih .whole d (y.2.1 + 1) trivial (by simp only [fuelW]; omega)
              rw [hz]
              refine ⟨_, rfl, fun q2 e => ?_⟩
              cases z with
              | none => cases e
              | some z =>
                obtain rfl := Option.some.inj e
                have := (hzq z rfl).1
                exact ⟨by show i ≤ z.2.1; omega, fun _ => by show i < z.2.1; omega⟩
            · rw [if_neg hc]; exact ⟨none, rfl, fun q e => by cases e⟩
        · rw [if_neg hs]
          exact ⟨_, rfl, fun q2 e => by obtain rfl := Option.some.inj (Option.some.inj e |> fun h => by exact congrArg some h); exact ⟨by omega, fun _ => hlt⟩⟩
/-- What is read, by a fuel that suffices. -/
def evF (L : List (Int × ByteArray × Int)) (W : Wh) (d i : Nat) : Option (Int × Nat × Bool × Bool × Bool) := (evT L (40 * L.length + 40) W d i).getD none
theorem evF_rd (L : List (Int × ByteArray × Int)) (W : Wh) (d i : Nat) (h : okW W) : Rd L W d i (evF L W d i) := by
  have hf : fuelW W ≤ 40 := by
    cases W with
    | lvl k => have : k ≤ 10 := h; simp only [fuelW]; omega
    | loop k v => have : k < 10 := h; simp only [fuelW]; omega
    | _ => simp [fuelW]
  obtain ⟨r, hr, _⟩ := ev_total L (40 * L.length + 40) W d i h (by omega)
  exact ⟨_, by unfold evF; rw [hr]; rfl⟩
theorem Rd.evF {L : List (Int × ByteArray × Int)} {W : Wh} {d i : Nat} {res : Option (Int × Nat × Bool × Bool × Bool)} (h : Rd L W d i res) (hk : okW W) : evF L W d i = res := (evF_rd L W d i hk).det h
end Go.Proofs.YtiojnbhomjkkgaaGreatDoor

namespace Go.Proofs.YtiojnbhomjkkgaaGreatDoor
open Go.RowKit

def cvT (t : Int × List UInt8 × Int) : Int × ByteArray × Int := (t.1, ⟨t.2.1.toArray⟩, t.2.2)
/-- From place i on the list begins with T. -/
def AtT (L : List (Int × ByteArray × Int)) (i : Nat) (T : List (Int × ByteArray × Int)) : Prop := ∃ R, L.drop i = T ++ R
section
variable {L T U : List (Int × ByteArray × Int)} {i d j j2 k f : Nat} {t : Int × ByteArray × Int} {v x y : Int} {s b : ByteArray}
theorem AtT.left (h : AtT L i (T ++ U)) : AtT L i T := by
  obtain ⟨R, h⟩ := h; exact ⟨U ++ R, by rw [h, List.append_assoc]⟩
theorem AtT.right (h : AtT L i (T ++ U)) : AtT L (i + T.length) U := by
  obtain ⟨R, h⟩ := h; exact ⟨R, by rw [← List.drop_drop, h, List.append_assoc, List.drop_left]⟩
theorem AtT.get (h : AtT L i (t :: U)) : L[i]? = some t := by
  obtain ⟨R, h⟩ := h
  have e : (L.drop i)[0]? = some t := by rw [h]; rfl
  simpa using e
theorem AtT.tail (h : AtT L i (t :: U)) : AtT L (i + 1) U := AtT.right (T := [t]) h
theorem AtT.sgn (h : AtT L i ((4, s, v) :: U)) : sgnT L i = s := by unfold sgnT; rw [h.get]; rfl
/-- Signs behind a whole expression. -/
def endS (s : ByteArray) : Prop := s = ⟨#[]⟩ ∨ s = ⟨#[41]⟩ ∨ s = ⟨#[58]⟩
theorem end_row (h : endS s) : ∀ q, q < 10 → rowN q s = none := by
  rcases h with rfl | rfl | rfl <;> decide
theorem end_q (h : endS s) : s ≠ ⟨#[63]⟩ := by
  rcases h with rfl | rfl | rfl <;> decide
theorem lvl_opnd (K : Nat) (h : Rd L .opnd d i (some (v, j, noF))) (hn : ∀ q, q < K → rowN q (sgnT L j) = none) : Rd L (.lvl K) d i (some (v, j, noF)) := by
  have := rd_lvls h K _ (rl_end K hn)
  simpa [addF, orF, noF] using this
theorem whole_opnd (h : Rd L .opnd d i (some (v, j, noF))) (he : endS (sgnT L j)) : Rd L .whole d i (some (v, j, noF)) :=
  rd_whole (lvl_opnd 10 h (end_row he)) (end_q he)
theorem opnd_par (h : sgnT L i = ⟨#[40]⟩) (hw : Rd L .whole (d + 1) (i + 1) (some (v, j, noF))) (hr : sgnT L j = ⟨#[41]⟩) : Rd L .opnd d i (some (v, j + 1, noF)) :=
  rd_op (by rw [h]; decide) (rd_par h hw hr)
theorem opnd_num (h : L[i]? = some (2, b, v)) (h0 : 0 ≤ v) (h1 : v ≤ 4294967295) (hd : d ≤ 8) : Rd L .opnd d i (some (v, i + 1, noF)) := by
  have hs : sgnT L i = ⟨#[]⟩ := by unfold sgnT; rw [h]; rfl
  have := rd_num (d := d) (by rw [hs]; decide) h rfl
  have e1 : v % 4294967296 = v := Int.emod_eq_of_lt h0 (by omega)
  have e2 : decide (8 < d) = false := by simp; omega
  have e3 : decide (v < 0) = false := by simp; omega
  have e4 : decide (4294967295 < v) = false := by simp; omega
  simp only [e1, e2, e3, e4, Bool.or_false] at this
  exact rd_op (by rw [hs]; decide) this
theorem opnd_un (hs : unB (sgnT L i) = true) (h : Rd L .opnd d (i + 1) (some (v, j, noF))) : Rd L .opnd d i (some (unT (sgnT L i) v, j, noF)) := rd_un hs h
/-- Two operands with a sign between them. -/
theorem lvl_bin (h : Rd L .opnd d i (some (x, j, noF))) (hr : rowN k (sgnT L j) = some f) (hk : k < 10) (hm : ∀ m, m < k → rowN m (sgnT L j) = none) (h2 : Rd L .opnd d (j + 1) (some (y, j2, noF)))
    (he : ∀ q, q < 10 → rowN q (sgnT L j2) = none) (hd : divB f y = false) : Rd L (.lvl 10) d i (some (appT f x y, j2, noF)) := by
  have e := rl_step (x := x) hr hm (lvl_opnd k h2 (fun q hq => he q (by omega))) 10 hk (some (appT f x y, j2, noF)) (by
    show RL L 10 (appT f x (if divB f y = true then 1 else y)) d j2 _
    rw [hd]
    exact rl_end 10 he)
  have := rd_lvls h 10 _ e
  simpa [addF, orF, noF, hd] using this
theorem whole_bin (h : Rd L .opnd d i (some (x, j, noF))) (hr : rowN k (sgnT L j) = some f) (hk : k < 10) (hm : ∀ m, m < k → rowN m (sgnT L j) = none) (h2 : Rd L .opnd d (j + 1) (some (y, j2, noF)))
    (he : endS (sgnT L j2)) (hd : divB f y = false) : Rd L .whole d i (some (appT f x y, j2, noF)) :=
  rd_whole (lvl_bin h hr hk hm h2 (end_row he) hd) (end_q he)
theorem whole_if {z : Int} {j3 : Nat} (h : Rd L (.lvl 10) d i (some (x, j, noF))) (hq : sgnT L j = ⟨#[63]⟩) (h2 : Rd L .whole d (j + 1) (some (y, j2, noF))) (hc : sgnT L j2 = ⟨#[58]⟩)
    (h3 : Rd L .whole d (j2 + 1) (some (z, j3, noF))) : Rd L .whole d i (some (if x = 0 then z else y, j3, noF)) := by
  have := rd_if h hq h2 hc h3
  simpa [orF, noF] using this
end
/-- The signs between operands: their rows, their numbers. -/
def rowsK : List (ByteArray × Nat × Nat) := [(⟨#[42]⟩, 0, 1), (⟨#[47]⟩, 0, 2), (⟨#[37]⟩, 0, 3), (⟨#[43]⟩, 1, 4), (⟨#[45]⟩, 1, 5), (⟨#[60, 60]⟩, 2, 6), (⟨#[62, 62]⟩, 2, 7), (⟨#[60]⟩, 3, 8), (⟨#[62]⟩, 3, 9), (⟨#[60, 61]⟩, 3, 10), (⟨#[62, 61]⟩, 3, 11), (⟨#[61, 61]⟩, 4, 12), (⟨#[33, 61]⟩, 4, 13), (⟨#[38]⟩, 5, 14), (⟨#[94]⟩, 6, 15), (⟨#[124]⟩, 7, 16), (⟨#[38, 38]⟩, 8, 17), (⟨#[124, 124]⟩, 9, 18)]
theorem rows_are : ∀ e ∈ rowsK, rowN e.2.1 e.1 = some e.2.2 ∧ e.2.1 < 10 ∧ (∀ m, m < 10 → m ≠ e.2.1 → rowN m e.1 = none) ∧ e.1 ≠ ⟨#[63]⟩ := by decide

/-- The bounds of an expression's text and tokens. -/
def xlen : Nat → Nat
  | 0 => 10
  | k + 1 => 2 * xlen k + 20
def xcnt : Nat → Nat
  | 0 => 1
  | k + 1 => 2 * xcnt k + 7
theorem xlen_pos : ∀ k, 10 ≤ xlen k := by
  intro k; cases k <;> simp [xlen]
theorem xcnt_pos : ∀ k, 1 ≤ xcnt k := by
  intro k; cases k <;> simp [xcnt]
def xchr (c : UInt8) : Bool := decide (c ≠ 34) && decide (c ≠ 59) && decide (c ≠ 123) && decide (c ≠ 125) && decide (c ≠ 92) && decide (c ≠ 105)
theorem xchr_num (n : Nat) : (basedT 10 false n).all xchr = true := by
  rw [List.all_eq_true]
  exact basedT_all 10 false (by omega) (by omega) (fun c => xchr c = true) (by decide) n n (Nat.le_refl _)
/-- The text a is an expression of depth k at most, with the value x. -/
structure XG (k : Nat) (a : List UInt8) (x : Int) : Prop where
  lo : 0 ≤ x
  hi : x ≤ 4294967295
  len : a.length ≤ xlen k
  chr : a.all xchr = true
  ex : ∃ T : List (Int × List UInt8 × Int), T.length ≤ xcnt k ∧ (∀ r, (r = [] ∨ ∃ r', r = 41 :: r') → Lx a T r) ∧
    ∀ (L : List (Int × ByteArray × Int)) (i d : Nat), d + k ≤ 8 → AtT L i (T.map cvT) → endS (sgnT L (i + T.length)) → Rd L .whole d i (some (x, i + T.length, noF))
/-- The same in brackets, as an operand. -/
structure XO (k : Nat) (a : List UInt8) (x : Int) : Prop where
  lo : 0 ≤ x
  hi : x ≤ 4294967295
  len : a.length ≤ xlen k + 2
  chr : a.all xchr = true
  ex : ∃ T : List (Int × List UInt8 × Int), T.length ≤ xcnt k + 2 ∧ (∀ r, Lx a T r) ∧
    ∀ (L : List (Int × ByteArray × Int)) (i d : Nat), d + k + 1 ≤ 8 → AtT L i (T.map cvT) → Rd L .opnd d i (some (x, i + T.length, noF))
theorem XG.par {k : Nat} {a : List UInt8} {x : Int} (h : XG k a x) : XO k (40 :: (a ++ [41])) x := by
  obtain ⟨h1, h2, h3, hq, T, hc, hT, hR⟩ := h
  refine ⟨h1, h2, by simp; omega, by simp only [List.all_cons, List.all_append, hq]; decide, [(4, [40], 0)] ++ (T ++ [(4, [41], 0)]), by simp; omega, fun r => ?_, fun L i d hd hA => ?_⟩
  · exact Lx.append (x := [40]) (Lx.lpar _) (Lx.append (hT _ (.inr ⟨_, rfl⟩)) (Lx.rpar r))
  · simp only [List.map_append] at hA
    have e0 := hA.left.sgn (s := ⟨#[40]⟩)
    have hB := hA.right
    have hC := hB.right.sgn (s := ⟨#[41]⟩)
    simp only [List.length_map, List.length_cons, List.length_nil, Nat.zero_add] at hB hC
    have := opnd_par e0 (hR L (i + 1) (d + 1) (by omega) hB.left (by rw [hC]; exact .inr (.inl rfl))) hC
    simpa [Nat.add_assoc, Nat.add_comm, Nat.add_left_comm] using this
theorem XG.num (k n : Nat) (h : n ≤ 4294967295) : XG k (basedT 10 false n) n := by
  refine ⟨by omega, by omega, ?_, xchr_num n, [(2, [], (n : Int))], by simpa using xcnt_pos k, fun r hr => ?_, fun L i d hd hA he => ?_⟩
  · have := basedT_len10 n h
    have := xlen_pos k
    omega
  · refine Lx.dec h ?_
    rcases hr with rfl | ⟨r', rfl⟩
    · exact .inl rfl
    · exact .inr (by rfl)
  · exact whole_opnd (opnd_num hA.get (by omega) (by omega) (by omega)) he
theorem XO.un {k : Nat} {a : List UInt8} {x : Int} {c : UInt8} (hc : c = 45 ∨ c = 126 ∨ c = 33) (h : XG k a x) : XG (k + 1) (c :: (40 :: (a ++ [41]))) (unT ⟨#[c]⟩ x) := by
  obtain ⟨h1, h2, h3, hq, T, hcn, hT, hR⟩ := h.par
  have hu : unB ⟨#[c]⟩ = true := by rcases hc with rfl | rfl | rfl <;> decide
  have hb : 0 ≤ unT ⟨#[c]⟩ x ∧ unT ⟨#[c]⟩ x ≤ 4294967295 := by
    unfold unT bitT
    split
    · omega
    · split
      · omega
      · split <;> omega
  refine ⟨hb.1, hb.2, by simp only [xlen, List.length_cons] at h3 ⊢; omega, by rw [List.all_cons, hq]; rcases hc with rfl | rfl | rfl <;> decide, [(4, [c], 0)] ++ T, by simp only [xcnt, List.length_append, List.length_cons, List.length_nil]; omega, fun r _ => ?_, fun L i d hd hA he => ?_⟩
  · refine Lx.append (x := [c]) ?_ (hT r)
    rcases hc with rfl | rfl | rfl
    · exact Lx.minus _
    · exact Lx.compl _
    · exact Lx.bang _
  · simp only [List.map_append] at hA
    have e0 := hA.left.sgn (s := ⟨#[c]⟩)
    have hB := hA.right
    simp only [List.length_map, List.length_cons, List.length_nil, Nat.zero_add] at hB
    have := opnd_un (by rw [e0]; exact hu) (hR L (i + 1) d (by omega) hB)
    rw [e0] at this
    have e1 : i + ([(4, [c], 0)] ++ T : List (Int × List UInt8 × Int)).length = i + 1 + T.length := by simp; omega
    rw [e1] at he ⊢
    exact whole_opnd this he
/-- Two operands and a sign. -/
theorem XG.bin {k row f : Nat} {a b m s : List UInt8} {x y : Int} (ha : XG k a x) (hb : XG k b y) (hs : (⟨s.toArray⟩, row, f) ∈ rowsK) (hm : ∀ r, Lx m [(4, s, 0)] (40 :: r)) (hml : m.length ≤ 4 ∧ m.all xchr = true) (hd : divB f y = false)
    (h0 : 0 ≤ appT f x y) (h1 : appT f x y ≤ 4294967295) : XG (k + 1) (40 :: (a ++ [41]) ++ (m ++ (40 :: (b ++ [41])))) (appT f x y) := by
  obtain ⟨a1, a2, a3, aq, T, ac, aT, aR⟩ := ha.par
  obtain ⟨b1, b2, b3, bq, U, bc, bT, bR⟩ := hb.par
  obtain ⟨r1, r2, r3, _⟩ := rows_are _ hs
  simp only at r1 r2 r3
  refine ⟨h0, h1, by simp only [xlen, List.length_append] at a3 b3 ⊢; have := hml.1; omega, by simp only [List.all_append, aq, bq, hml.2]; decide, T ++ ([(4, s, 0)] ++ U), by simp only [xcnt, List.length_append, List.length_cons, List.length_nil] at ac bc ⊢; omega, fun r _ => ?_, fun L i d hd' hA he => ?_⟩
  · exact Lx.append (aT _) (Lx.append (hm _) (bT r))
  · simp only [List.map_append] at hA
    have hB := hA.right
    have e0 := hB.left.sgn (s := ⟨s.toArray⟩)
    have hC := hB.right
    simp only [List.length_map, List.length_cons, List.length_nil, Nat.zero_add] at e0 hC
    have hx := aR L i d (by omega) hA.left
    have hy := bR L (i + T.length + 1) d (by omega) hC
    have e1 : i + (T ++ ([(4, s, 0)] ++ U)).length = i + T.length + 1 + U.length := by simp; omega
    rw [e1] at he ⊢
    exact whole_bin hx (by rw [e0]; exact r1) r2 (fun q hq => by rw [e0]; exact r3 q (by omega) (by omega)) hy he hd
/-- An operand, a sign and a number. -/
theorem XG.binN {k row f n : Nat} {a m s : List UInt8} {x : Int} (ha : XG k a x) (hs : (⟨s.toArray⟩, row, f) ∈ rowsK) (hm : ∀ r, Lx m [(4, s, 0)] (32 :: r)) (hml : m.length ≤ 4 ∧ m.all xchr = true) (hn : n < 10) (hd : divB f n = false)
    (h0 : 0 ≤ appT f x n) (h1 : appT f x n ≤ 4294967295) : XG (k + 1) (40 :: (a ++ [41]) ++ (m ++ (32 :: basedT 10 false n))) (appT f x n) := by
  obtain ⟨a1, a2, a3, aq, T, ac, aT, aR⟩ := ha.par
  obtain ⟨r1, r2, r3, _⟩ := rows_are _ hs
  simp only at r1 r2 r3
  have hl : (basedT 10 false n).length = 1 := by rw [basedT_small 10 false n hn]; rfl
  refine ⟨h0, h1, by simp only [xlen, List.length_append, List.length_cons, hl] at a3 ⊢; have := hml.1; omega, by simp only [List.all_append, List.all_cons, aq, hml.2, xchr_num]; decide, T ++ ([(4, s, 0)] ++ ([] ++ [(2, [], (n : Int))])), by simp only [xcnt, List.length_append, List.length_cons, List.length_nil] at ac ⊢; omega, fun r hr => ?_, fun L i d hd' hA he => ?_⟩
  · refine Lx.append (aT _) (Lx.append (hm _) (Lx.append (x := [32]) (Lx.sp _) (Lx.dec (by omega) ?_)))
    rcases hr with rfl | ⟨r', rfl⟩
    · exact .inl rfl
    · exact .inr (by rfl)
  · simp only [List.map_append, List.nil_append, List.map_nil] at hA he ⊢
    have hB := hA.right
    have e0 := hB.left.sgn (s := ⟨s.toArray⟩)
    have hC := hB.right
    simp only [List.length_map, List.length_cons, List.length_nil, Nat.zero_add] at e0 hC
    have hx := aR L i d (by omega) hA.left
    have hy := opnd_num (d := d) (b := ⟨([] : List UInt8).toArray⟩) (v := (n : Int)) hC.get (by omega) (by omega) (by omega)
    have e1 : i + (T ++ ([(4, s, 0)] ++ [(2, [], (n : Int))])).length = i + T.length + 1 + 1 := by simp; omega
    rw [e1] at he ⊢
    exact whole_bin hx (by rw [e0]; exact r1) r2 (fun q hq => by rw [e0]; exact r3 q (by omega) (by omega)) hy he hd
/-- A choice. -/
theorem XG.cond {k : Nat} {a b : List UInt8} {x y : Int} (ha : XG k a x) (hb : XG k b y) : XG (k + 1) (40 :: (a ++ [41]) ++ ([32, 63, 32] ++ (40 :: (b ++ [41]) ++ ([32, 58, 32] ++ basedT 10 false 5)))) (if x = 0 then 5 else y) := by
  obtain ⟨a1, a2, a3, aq, T, ac, aT, aR⟩ := ha.par
  obtain ⟨b1, b2, b3, bq, U, bc, bT, bR⟩ := hb.par
  have hl : (basedT 10 false 5).length = 1 := by rw [basedT_small 10 false 5 (by omega)]; rfl
  refine ⟨by split <;> omega, by split <;> omega, by simp only [xlen, List.length_append, List.length_cons, List.length_nil, hl] at a3 b3 ⊢; omega, by simp only [List.all_append, aq, bq, xchr_num]; decide,
    T ++ ([(4, [63], 0)] ++ (U ++ ([(4, [58], 0)] ++ [(2, [], ((5 : Nat) : Int))]))), by simp only [xcnt, List.length_append, List.length_cons, List.length_nil] at ac bc ⊢; omega, fun r hr => ?_, fun L i d hd' hA he => ?_⟩
  · have sgnLx : ∀ (c : UInt8) (r : List UInt8), (∀ r, Lx [c] [(4, [c], 0)] r) → Lx [32, c, 32] [(4, [c], 0)] r := by
      intro c r hc
      exact Lx.append (x := [32]) (T := []) (y := [c, 32]) (Lx.sp _) (Lx.append (x := [c]) (U := []) (hc _) (Lx.sp r))
    refine Lx.append (aT _) (Lx.append (sgnLx 63 _ Lx.quest) (Lx.append (bT _) (Lx.append (sgnLx 58 _ Lx.colon) (Lx.dec (by omega) ?_))))
    rcases hr with rfl | ⟨r', rfl⟩
    · exact .inl rfl
    · exact .inr (by rfl)
  · simp only [List.map_append] at hA
    have hB := hA.right
    have e0 := hB.left.sgn (s := ⟨#[63]⟩)
    have hC := hB.right
    have hD := hC.right
    have e2 := hD.left.sgn (s := ⟨#[58]⟩)
    have hE := hD.right
    simp only [List.length_map, List.length_cons, List.length_nil, Nat.zero_add] at e0 hC e2 hE
    have hx := aR L i d (by omega) hA.left
    have hy := bR L (i + T.length + 1) d (by omega) hC.left
    have hz := opnd_num (d := d) (b := ⟨([] : List UInt8).toArray⟩) (v := ((5 : Nat) : Int)) hE.get (by omega) (by omega) (by omega)
    have e1 : i + (T ++ ([(4, [63], 0)] ++ (U ++ ([(4, [58], 0)] ++ [(2, [], ((5 : Nat) : Int))])))).length = i + T.length + 1 + U.length + 1 + 1 := by simp; omega
    rw [e1] at he ⊢
    exact whole_if (lvl_opnd 10 hx (by rw [e0]; decide)) e0 (whole_opnd hy (by rw [e2]; exact .inr (.inr rfl))) e2 (whole_opnd hz he)
end Go.Proofs.YtiojnbhomjkkgaaGreatDoor
