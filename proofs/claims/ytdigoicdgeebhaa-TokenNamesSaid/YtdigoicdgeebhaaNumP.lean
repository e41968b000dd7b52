/- Plain laws: what the tokens of a number's digits are. -/
import Derived.Test.YtdigoicdgeebhaaLawN
import Derived.Test.YtdigoicdgeebhaaTokP
namespace Go.Proofs.Ytdigoicdgeebhaa

theorem digitsT_acc (base : Nat) (cap : Bool) : ∀ (f n : Nat) (acc : List UInt8), digitsT base cap f n acc = digitsT base cap f n [] ++ acc := by
  intro f
  induction f with
  | zero => intro n acc; simp [digitsT]
  | succ f ih =>
    intro n acc
    simp only [digitsT]
    split
    · simp
    · rw [ih (n / base) (digCh cap (n % base) :: acc), ih (n / base) [digCh cap (n % base)]]; simp
theorem digitsT_fuel (base : Nat) (cap : Bool) (hb : 2 ≤ base) : ∀ (f g n : Nat) (acc : List UInt8), n ≤ f → n ≤ g → digitsT base cap f n acc = digitsT base cap g n acc := by
  intro f
  induction f with
  | zero =>
    intro g n acc h _
    obtain rfl : n = 0 := by omega
    cases g <;> simp [digitsT]
  | succ f ih =>
    intro g n acc h h'
    cases g with
    | zero => obtain rfl : n = 0 := by omega
              simp [digitsT]
    | succ g =>
      simp only [digitsT]
      split
      · rfl
      · rename_i hn
        have : n / base < n := Nat.div_lt_self (by omega) (by omega)
        exact ih g _ _ (by omega) (by omega)
theorem basedT_small (base : Nat) (cap : Bool) (n : Nat) (h : n < base) : basedT base cap n = [digCh cap n] := by
  unfold basedT; rw [Nat.div_eq_of_lt h, Nat.mod_eq_of_lt h]; rfl
theorem basedT_great (base : Nat) (cap : Bool) (hb : 2 ≤ base) (n : Nat) (h : base ≤ n) : basedT base cap n = basedT base cap (n / base) ++ [digCh cap (n % base)] := by
  have hq : 1 ≤ n / base := (Nat.one_le_div_iff (by omega)).2 h
  obtain ⟨q, hq'⟩ : ∃ q, n / base = q := ⟨_, rfl⟩
  unfold basedT
  rw [hq'] at hq ⊢
  obtain ⟨p, rfl⟩ : ∃ p, q = p + 1 := ⟨q - 1, by omega⟩
  rw [digitsT_acc, digitsT.eq_2]
  rw [if_neg (by omega)]
  congr 1
  have : (p + 1) / base < p + 1 := Nat.div_lt_self (by omega) (by omega)
  exact digitsT_fuel base cap hb _ _ _ _ (by omega) (by omega)
theorem digCh_hex (cap : Bool) (d : Nat) (h : d < 16) : hexV (digCh cap d).toNat = d := by
  have : ∀ (c : Bool) (x : Fin 16), hexV (digCh c x).toNat = ((x.val : Nat) : Int) := by decide +kernel
  exact this cap ⟨d, h⟩
theorem digCh_word (cap : Bool) (d : Nat) (h : d < 16) : wordB (digCh cap d).toNat = true := by
  have : ∀ (c : Bool) (x : Fin 16), wordB (digCh c x).toNat = true := by decide +kernel
  exact this cap ⟨d, h⟩
theorem digCh_dec (d : Nat) (h : d < 10) : digitB (digCh false d).toNat = true ∧ (d ≠ 0 → (digCh false d).toNat ≠ 48) ∧ (digCh false d).toNat ≠ 120 := by
  have : ∀ (x : Fin 10), digitB (digCh false x).toNat = true ∧ (x.val ≠ 0 → (digCh false x).toNat ≠ 48) ∧ (digCh false x).toNat ≠ 120 := by decide +kernel
  exact this ⟨d, h⟩
theorem numFold_snoc (base : Int) (x : UInt8) : ∀ (l : List UInt8) (n : Int), numFold base (l ++ [x]) n = (numFold base l n).bind fun m => numFold base [x] m := by
  intro l
  induction l with
  | nil => intro n; rfl
  | cons c l ih =>
    intro n
    simp only [List.cons_append, numFold]
    split
    · rfl
    · exact ih _

theorem numFold_based (base : Nat) (cap : Bool) (hb : base = 8 ∨ base = 10 ∨ base = 16) : ∀ (k n : Nat), n ≤ k → numFold base (basedT base cap n) 0 = some (min (n : Int) 4294967296) := by
  intro k
  induction k with
  | zero =>
    intro n h
    obtain rfl : n = 0 := by omega
    rw [basedT_small base cap 0 (by omega)]
    simp only [numFold]
    rw [digCh_hex cap 0 (by omega), if_neg (by omega)]
    simp
  | succ k ih =>
    intro n h
    rcases Nat.lt_or_ge n base with hlt | hge
    · rw [basedT_small base cap n hlt]
      simp only [numFold]
      rw [digCh_hex cap n (by omega), if_neg (by omega)]
      simp
    · have hlt2 : n / base < n := Nat.div_lt_self (by omega) (by omega)
      have hm : n % base < base := Nat.mod_lt _ (by omega)
      have hd := Nat.div_add_mod n base
      rw [basedT_great base cap (by omega) n hge, numFold_snoc, ih (n / base) (by omega)]
      simp only [Option.bind_some, numFold]
      rw [digCh_hex cap (n % base) (by omega), if_neg (by omega)]
      congr 1
      rcases hb with rfl | rfl | rfl <;> omega

theorem basedT_all (base : Nat) (cap : Bool) (hb : 2 ≤ base) (hb2 : base ≤ 16) (p : UInt8 → Prop) (hp : ∀ d, d < base → p (digCh cap d)) : ∀ (k n : Nat), n ≤ k → ∀ x ∈ basedT base cap n, p x := by
  intro k
  induction k with
  | zero =>
    intro n h x hx
    obtain rfl : n = 0 := by omega
    rw [basedT_small base cap 0 (by omega)] at hx
    simp at hx; subst hx; exact hp 0 (by omega)
  | succ k ih =>
    intro n h x hx
    rcases Nat.lt_or_ge n base with hlt | hge
    · rw [basedT_small base cap n hlt] at hx
      simp at hx; subst hx; exact hp n hlt
    · have hlt2 : n / base < n := Nat.div_lt_self (by omega) (by omega)
      rw [basedT_great base cap hb n hge] at hx
      rcases List.mem_append.1 hx with hx | hx
      · exact ih _ (by omega) x hx
      · simp at hx; subst hx; exact hp _ (Nat.mod_lt _ (by omega))
theorem basedT_len (base : Nat) (cap : Bool) (hb : 2 ≤ base) : ∀ (k n : Nat), n < 2 ^ k → (basedT base cap n).length ≤ k + 1 := by
  intro k
  induction k with
  | zero => intro n h; obtain rfl : n = 0 := by omega
            rw [basedT_small base cap 0 (by omega)]; simp
  | succ k ih =>
    intro n h
    rcases Nat.lt_or_ge n base with hlt | hge
    · rw [basedT_small base cap n hlt]; simp
    · rw [basedT_great base cap hb n hge]
      have : n / base ≤ n / 2 := Nat.div_le_div_left hb (by omega)
      have := ih (n / base) (by rw [Nat.pow_succ] at h; omega)
      simp; omega
theorem basedT_ne (base : Nat) (cap : Bool) (hb : 2 ≤ base) (n : Nat) : basedT base cap n ≠ [] := by
  rcases Nat.lt_or_ge n base with hlt | hge
  · rw [basedT_small base cap n hlt]; simp
  · rw [basedT_great base cap hb n hge]; simp
/-- The first digit of a number in decimal is 0 only for 0. -/
theorem basedT_head : ∀ (k n : Nat), n ≤ k → n ≠ 0 → ((basedT 10 false n).headD 0).toNat ≠ 48 := by
  intro k
  induction k with
  | zero => intro n h h0; omega
  | succ k ih =>
    intro n h h0
    rcases Nat.lt_or_ge n 10 with hlt | hge
    · rw [basedT_small 10 false n hlt]; exact (digCh_dec n hlt).2.1 h0
    · rw [basedT_great 10 false (by omega) n hge]
      have := ih (n / 10) (by omega) (by omega)
      have hne := basedT_ne 10 false (by omega) (n / 10)
      cases hb : basedT 10 false (n / 10) with
      | nil => exact absurd hb hne
      | cons a l => rw [hb] at this; simpa using this

theorem runB_all (p : Int → Bool) : ∀ l : List UInt8, (∀ x ∈ l, p x.toNat = true) → runB p l = l.length := by
  intro l
  induction l with
  | nil => intro _; rfl
  | cons c l ih => intro h; rw [runB_cons, if_pos (h c (by simp)), ih (fun x hx => h x (by simp [hx]))]; rfl

theorem blk_begin {f : Nat} {c : UInt8} {r : List UInt8} (h : sepB c.toNat = false) (h2 : c.toNat ≠ 47) : blk f (c :: r) = (0, false) := by
  have hc : (47 : UInt8) ≠ c := by rintro rfl; exact h2 rfl
  cases f with
  | zero => rfl
  | succ f =>
    simp only [blk]
    rw [if_neg (by simp [h]), if_neg (by simp [Lib.hasPrefix, hc]), if_neg (by simp [Lib.hasPrefix, hc])]
theorem blk_nil (f : Nat) : blk f [] = (0, false) := by cases f <;> rfl

theorem digit_no (c : Int) (h : digitB c = true) : sepB c = false ∧ c ≠ 47 ∧ ¬ (letterB c = true ∨ c = 95 ∨ c = 35) := by
  unfold digitB at h
  simp only [decide_eq_true_eq] at h
  refine ⟨?_, by omega, ?_⟩
  · unfold sepB memB; simp; omega
  · rintro (h' | h' | h')
    · unfold letterB at h'; simp at h'; omega
    · omega
    · omega

/-- A number alone, from a place on. -/
theorem rdA_number (file : Int) (f : Nat) (l : List UInt8) (p : Int × Int) (hl : l ≠ []) (hw : ∀ x ∈ l, wordB x.toNat = true) (hd : digitB (l.headD 0).toNat = true) :
    rdA file (f + 2) l p [] = if (numT l).2 ≠ 0 then ([], (file, p.1, p.2), (numT l).2) else ([⟨2, [], (numT l).1, p.1, p.2⟩, ⟨8, [], 0, (adv l p).1, (adv l p).2⟩], (0, 0, 0), 0) := by
  obtain ⟨h1, h2, h3⟩ := digit_no _ hd
  have hb : blk l.length l = (0, false) := by
    cases l with
    | nil => exact absurd rfl hl
    | cons c r => exact blk_begin (by simpa using h1) (by simp at h2; omega)
  have hn : nextT l = (⟨2, [], (numT l).1, 0, 0⟩, l.length, (numT l).2) := by
    unfold nextT; simp only []; rw [if_neg h3, if_pos hd, runB_all wordB l hw, List.take_length]
  rw [rdA]
  simp only [hb, List.drop_zero, List.take_zero, adv]
  rw [if_neg (by simp), if_neg (by simp), if_neg hl, hn]
  simp only []
  by_cases he : (numT l).2 = 0
  · rw [if_neg (by simp [he]), if_neg (by simp [he])]
    rw [List.drop_length, List.take_length, rdA]
    simp only [List.length_nil, blk_nil, List.drop_nil, List.take_nil, adv]
    simp
  · rw [if_pos he, if_pos he]

theorem readT_number (file : Int) (l : List UInt8) (hl : l ≠ []) (hlen : l.length ≤ 16000) (hw : ∀ x ∈ l, wordB x.toNat = true) (hd : digitB (l.headD 0).toNat = true) :
    readT l file = if (numT l).2 ≠ 0 then ([], (file, 1, 1), (numT l).2) else ([⟨2, [], (numT l).1, 1, 1⟩, ⟨8, [], 0, (adv l (1, 1)).1, (adv l (1, 1)).2⟩], (0, 0, 0), 0) := by
  unfold readT
  have := List.length_pos_iff.2 hl
  rw [if_neg (by omega), show l.length + 1 = (l.length - 1) + 2 from by omega, rdA_number file _ l (1, 1) hl hw hd]

theorem numT_dec (n : Nat) : numT (basedT 10 false n) = numR (some (min (n : Int) 4294967296)) := by
  have hne := basedT_ne 10 false (by omega) n
  have hp : numParts (basedT 10 false n) = (10, basedT 10 false n) := by
    unfold numParts
    have hx : Lib.hasPrefix (basedT 10 false n) [48, 120] = false := by
      have hall := basedT_all 10 false (by omega) (by omega) (fun x => x.toNat ≠ 120) (fun d hd => (digCh_dec d hd).2.2) n n (Nat.le_refl _)
      cases hb : basedT 10 false n with
      | nil => rfl
      | cons a l =>
        cases l with
        | nil => simp [Lib.hasPrefix, List.isPrefixOf]
        | cons b l =>
          rw [hb] at hall
          have := hall b (by simp)
          have hb' : (120 : UInt8) ≠ b := by rintro rfl; exact this rfl
          simp [Lib.hasPrefix, List.isPrefixOf, hb']
    rw [if_neg (by simp [hx]), if_neg]
    rintro ⟨h1, h2⟩
    by_cases h0 : n = 0
    · subst h0; rw [basedT_small 10 false 0 (by omega)] at h1; simp at h1
    · exact basedT_head n n (Nat.le_refl _) h0 (by rw [h2]; rfl)
  unfold numT
  rw [hp]
  simp only []
  rw [if_neg hne]
  have := numFold_based 10 false (by omega) n n (Nat.le_refl _)
  rw [← this]; rfl
theorem numT_oct (n : Nat) : numT (48 :: basedT 8 false n) = numR (some (min (n : Int) 4294967296)) := by
  have hne := basedT_ne 8 false (by omega) n
  have hp : numParts (48 :: basedT 8 false n) = (8, basedT 8 false n) := by
    unfold numParts
    have hall := basedT_all 8 false (by omega) (by omega) (fun x => x.toNat ≠ 120) (fun d hd => (digCh_dec d (by omega)).2.2) n n (Nat.le_refl _)
    cases hb : basedT 8 false n with
    | nil => exact absurd hb hne
    | cons b l =>
      rw [hb] at hall
      have := hall b (by simp)
      have hb' : (120 : UInt8) ≠ b := by rintro rfl; exact this rfl
      simp [Lib.hasPrefix, hb']
  unfold numT
  rw [hp]
  simp only []
  rw [if_neg hne]
  have := numFold_based 8 false (by omega) n n (Nat.le_refl _)
  rw [← this]; rfl
theorem numT_hex (n : Nat) (cap : Bool) : numT (48 :: 120 :: basedT 16 cap n) = numR (some (min (n : Int) 4294967296)) := by
  have hne := basedT_ne 16 cap (by omega) n
  have hp : numParts (48 :: 120 :: basedT 16 cap n) = (16, basedT 16 cap n) := by
    unfold numParts
    simp [Lib.hasPrefix]
  unfold numT
  rw [hp]
  simp only []
  rw [if_neg hne]
  have := numFold_based 16 cap (by omega) n n (Nat.le_refl _)
  rw [← this]; rfl
end Go.Proofs.Ytdigoicdgeebhaa
