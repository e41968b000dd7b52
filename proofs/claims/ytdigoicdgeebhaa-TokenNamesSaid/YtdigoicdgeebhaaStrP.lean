/- Plain laws: a string of bytes, written with escapes, is read back. -/
import Derived.Test.YtdigoicdgeebhaaNumP
namespace Go.Proofs.Ytdigoicdgeebhaa

def plainB (plain : Bool) (b : UInt8) : Bool := plain && decide (32 ≤ b.toNat ∧ b.toNat < 127 ∧ b.toNat ≠ 34 ∧ b.toNat ≠ 92)
def encU (plain : Bool) (i : Nat) (b : UInt8) : List UInt8 := if plainB plain b = true then [b] else [92, 120, digCh (i % 2 == 0) (b.toNat / 16), digCh (i % 2 == 0) (b.toNat % 16)]
def encT (plain : Bool) : Nat → List UInt8 → List UInt8
  | _, [] => []
  | i, b :: r => encU plain i b ++ encT plain (i + 1) r
theorem encT_snoc (plain : Bool) (b : UInt8) : ∀ (l : List UInt8) (i : Nat), encT plain i (l ++ [b]) = encT plain i l ++ encU plain (i + l.length) b := by
  intro l
  induction l with
  | nil => intro i; simp [encT]
  | cons c l ih => intro i; simp only [List.cons_append, encT]; rw [ih, List.append_assoc, List.length_cons, show i + 1 + l.length = i + (l.length + 1) from by omega]
theorem encU_len (plain : Bool) (i : Nat) (b : UInt8) : (encU plain i b).length ≤ 4 := by unfold encU; split <;> simp
theorem encT_len (plain : Bool) : ∀ (l : List UInt8) (i : Nat), (encT plain i l).length ≤ 4 * l.length := by
  intro l
  induction l with
  | nil => intro i; simp [encT]
  | cons c l ih => intro i; have := ih (i + 1); have := encU_len plain i c; simp [encT]; omega
theorem digCh_n10 (cap : Bool) (d : Nat) (h : d < 16) : (digCh cap d).toNat ≠ 10 := by
  have : ∀ (c : Bool) (x : Fin 16), (digCh c x).toNat ≠ 10 := by decide +kernel
  exact this cap ⟨d, h⟩
theorem basedT_byte (cap : Bool) (b : Nat) (h : b < 256) : basedT 16 cap (b + 256) = [49, digCh cap (b / 16), digCh cap (b % 16)] := by
  rw [basedT_great 16 cap (by omega) _ (by omega), basedT_great 16 cap (by omega) _ (by omega), basedT_small 16 cap _ (by omega)]
  rw [show (b + 256) / 16 / 16 = 1 from by omega, show (b + 256) / 16 % 16 = b / 16 from by omega, show (b + 256) % 16 = b % 16 from by omega]
  have : digCh cap 1 = 49 := by cases cap <;> rfl
  rw [this]; rfl

theorem qtA_unit (plain : Bool) (i : Nat) (b : UInt8) (f : Nat) (rest acc : List UInt8) (k : Nat) : qtA (f + 1) (encU plain i b ++ rest) acc k = qtA f rest (acc ++ [b]) (k + (encU plain i b).length) := by
  have hb := b.toNat_lt
  unfold encU
  by_cases hp : plainB plain b = true
  · rw [if_pos hp]
    unfold plainB at hp
    simp only [Bool.and_eq_true, decide_eq_true_eq] at hp
    obtain ⟨_, h1, h2, h3, h4⟩ := hp
    simp only [List.cons_append, List.nil_append, qtA]
    rw [if_neg h3, if_neg (by omega), if_neg h4]; rfl
  · rw [if_neg hp]
    have h1 := digCh_hex (i % 2 == 0) (b.toNat / 16) (by omega)
    have h2 := digCh_hex (i % 2 == 0) (b.toNat % 16) (by omega)
    have h3 := digCh_n10 (i % 2 == 0) (b.toNat / 16) (by omega)
    have h4 := digCh_n10 (i % 2 == 0) (b.toNat % 16) (by omega)
    simp only [List.cons_append, List.nil_append]
    generalize digCh (i % 2 == 0) (b.toNat / 16) = x at h1 h3
    generalize digCh (i % 2 == 0) (b.toNat % 16) = y at h2 h4
    have he : esc (120 :: x :: y :: rest) = ((b.toNat : Int), 3, 0) := by
      simp only [esc]
      rw [if_neg (by decide), if_neg (by decide), if_neg (by decide), if_neg (by decide), if_neg (by decide), if_neg (by decide)]
      simp only [hx2]
      rw [if_neg h3, if_neg (by omega), if_neg h4, if_neg (by omega), h1, h2]
      congr 1; omega
    simp only [qtA]
    rw [if_neg (by decide), if_neg (by decide), if_pos (by decide), he]
    simp only []
    rw [if_neg (by simp)]
    have hbb : (b.toNat : Int).toNat.toUInt8 = b := by apply UInt8.toNat_inj.1; simp [Nat.toUInt8]
    rw [hbb]; rfl

theorem qtA_enc (plain : Bool) (tail : List UInt8) : ∀ (r acc : List UInt8) (i f k : Nat), r.length < f → qtA f (encT plain i r ++ 34 :: tail) acc k = (acc ++ r, k + (encT plain i r).length + 1, 0) := by
  intro r
  induction r with
  | nil =>
    intro acc i f k h
    obtain ⟨f, rfl⟩ : ∃ f', f = f' + 1 := ⟨f - 1, by omega⟩
    simp only [encT, List.nil_append, qtA]
    rw [if_pos (by decide)]; simp
  | cons b r ih =>
    intro acc i f k h
    obtain ⟨f, rfl⟩ : ∃ f', f = f' + 1 := ⟨f - 1, by omega⟩
    simp only [encT, List.append_assoc]
    rw [qtA_unit, ih _ _ _ _ (by simp at h; omega)]
    simp; omega

theorem nextT_name (l : List UInt8) (h : letterB (l.headD 0).toNat = true ∨ ((l.headD 0).toNat : Int) = 95 ∨ ((l.headD 0).toNat : Int) = 35) (n : Nat) (hr : runB nameB l = n) (hn : n = l.length ∨ (l.getD n 0).toNat ≠ 58) : nextT l = (⟨1, l.take n, 0, 0, 0⟩, n, 0) := by
  unfold nextT; simp only []; rw [if_pos h, hr, if_pos hn]
theorem nextT_string (l : List UInt8) (h : ((l.headD 0).toNat : Int) = 34) (q : List UInt8 × Nat × Int) (hq : qtA l.length (l.drop 1) [] 1 = q) : nextT l = (⟨3, q.1, 0, 0, 0⟩, q.2.1, q.2.2) := by
  unfold nextT; simp only []
  rw [if_neg (by rw [h]; decide), if_neg (by rw [h]; decide), if_pos h, hq]
theorem readT_string (raw : List UInt8) (plain : Bool) (hl : raw.length ≤ 200) : ∃ t0 t2 t3 : Tok, readT (120 :: 32 :: 34 :: (encT plain 0 raw ++ [34, 59])) 0 = ([t0, ⟨3, raw, 0, 1, 3⟩, t2, t3], (0, 0, 0), 0) := by
  have hel := encT_len plain raw 0
  have hq := qtA_enc plain [59] raw [] 0 (34 :: (encT plain 0 raw ++ [34, 59])).length 1
  have hrl : ∀ (r : List UInt8) (i : Nat), r.length ≤ (encT plain i r).length := by
    intro r
    induction r with
    | nil => intro i; simp
    | cons c r ih => intro i; have := ih (i + 1); simp only [encT, List.length_append, List.length_cons]; have : 1 ≤ (encU plain i c).length := by unfold encU; split <;> simp
                     omega
  have hq := hq (by have := hrl raw 0; simp; omega)
  generalize encT plain 0 raw = body at hel hq
  unfold readT
  rw [if_neg (by simp; omega)]
  have hlen : (120 :: 32 :: 34 :: (body ++ [34, 59])).length + 1 = (body.length + 2) + 4 := by simp
  rw [hlen]
  -- the name
  rw [rdA, blk_begin (by decide) (by decide)]
  simp only [List.drop_zero, List.take_zero, adv]
  rw [if_neg (by simp), if_neg (by simp), if_neg (by simp)]
  have hn1 : nextT (120 :: 32 :: 34 :: (body ++ [34, 59])) = (⟨1, [120], 0, 0, 0⟩, 1, 0) := by
    have hr : runB nameB (120 :: 32 :: 34 :: (body ++ [34, 59])) = 1 := by rw [runB_cons, if_pos (by decide), runB_cons, if_neg (by decide)]
    exact nextT_name _ (.inl (by simp only [List.headD_cons]; decide)) 1 hr (.inr (by simp))
  rw [hn1]
  simp only [List.drop_succ_cons, List.drop_zero, List.take_succ_cons, List.take_zero, adv, List.nil_append]
  rw [if_neg (by simp)]
  -- the string
  rw [rdA]
  have hb2 : blk (32 :: 34 :: (body ++ [34, 59])).length (32 :: 34 :: (body ++ [34, 59])) = (1, false) := by
    rw [List.length_cons, blk_sep (by decide), blk_begin (by decide) (by decide)]
  simp only [hb2, List.drop_succ_cons, List.drop_zero, List.take_succ_cons, List.take_zero, adv]
  rw [if_neg (by simp), if_neg (by simp), if_neg (by simp)]
  have hn2 : nextT (34 :: (body ++ [34, 59])) = (⟨3, raw, 0, 0, 0⟩, 1 + body.length + 1, 0) := by
    exact nextT_string _ (by simp only [List.headD_cons]; decide) _ hq
  rw [hn2]
  simp only []
  rw [if_neg (by simp)]
  have hd : (34 :: (body ++ [34, 59])).drop (1 + body.length + 1) = [59] := by
    rw [show 1 + body.length + 1 = (body.length + 1) + 1 from by omega, List.drop_succ_cons, List.drop_append, List.drop_eq_nil_of_le (by omega)]
    simp
  rw [hd]
  generalize adv ((34 :: (body ++ [34, 59])).take (1 + body.length + 1)) _ = p3
  -- the sign and the end
  rw [rdA, blk_begin (by decide) (by decide)]
  simp only [List.drop_zero, List.take_zero, adv]
  rw [if_neg (by simp), if_neg (by simp), if_neg (by simp)]
  have hn3 : nextT [59] = (⟨4, [59], 0, 0, 0⟩, 1, 0) := by decide +kernel
  rw [hn3]
  simp only [List.drop_succ_cons, List.drop_zero, List.take_succ_cons, List.take_zero]
  rw [if_neg (by simp)]
  rw [rdA, blk_nil]
  simp
end Go.Proofs.Ytdigoicdgeebhaa
