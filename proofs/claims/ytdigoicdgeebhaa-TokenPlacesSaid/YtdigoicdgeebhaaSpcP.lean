/- Plain laws: what separates tokens changes only places. -/
import Derived.Test.YtdigoicdgeebhaaTokP
namespace Go.Proofs.Ytdigoicdgeebhaa

theorem blk_fuel : ∀ (f : Nat) (l : List UInt8), l.length ≤ f → blk f l = blk l.length l := by
  have key : ∀ (n : Nat) (l : List UInt8), l.length ≤ n → ∀ f g, l.length ≤ f → l.length ≤ g → blk f l = blk g l := by
    intro n
    induction n with
    | zero =>
      intro l hl f g hf hg
      have : l = [] := List.length_eq_zero_iff.1 (by omega)
      subst this
      cases f <;> cases g <;> simp [blk]
    | succ n ih =>
      intro l hl f g hf hg
      cases l with
      | nil => cases f <;> cases g <;> simp [blk]
      | cons c r =>
        simp only [List.length_cons] at hl hf hg
        obtain ⟨f, rfl⟩ : ∃ f', f = f' + 1 := ⟨f - 1, by omega⟩
        obtain ⟨g, rfl⟩ : ∃ f', g = f' + 1 := ⟨g - 1, by omega⟩
        simp only [blk]
        by_cases h1 : sepB c.toNat = true
        · rw [if_pos h1, if_pos h1, ih r (by omega) f g (by omega) (by omega)]
        · rw [if_neg h1, if_neg h1]
          by_cases h2 : Lib.hasPrefix (c :: r) [47, 47] = true
          · rw [if_pos h2, if_pos h2]
            have hp := Lib.hasPrefix_le h2
            have hk : 1 ≤ runB notNlB (c :: r) := by
              rw [runB_cons]
              have : notNlB c.toNat = true := by
                have h3 : c = 47 := by simp [Lib.hasPrefix] at h2; exact h2.1.symm
                subst h3; decide
              rw [if_pos this]; omega
            rw [ih ((c :: r).drop (runB notNlB (c :: r))) (by simp; omega) f g (by simp; omega) (by simp; omega)]
          · rw [if_neg h2, if_neg h2]
            by_cases h3 : Lib.hasPrefix (c :: r) [47, 42] = true
            · rw [if_pos h3, if_pos h3]
              by_cases h4 : Lib.index ((c :: r).drop 2) [42, 47] < 0
              · rw [if_pos h4, if_pos h4]
              · rw [if_neg h4, if_neg h4]
                rw [ih ((c :: r).drop ((Lib.index ((c :: r).drop 2) [42, 47]).toNat + 4)) (by simp; omega) f g (by simp; omega) (by simp; omega)]
            · rw [if_neg h3, if_neg h3]
  intro f l h
  exact key l.length l (Nat.le_refl _) f l.length h (Nat.le_refl _)

def blanksL : List (List UInt8) := [[32], [10], [9], [47, 47, 32, 110, 111, 116, 101, 10], [47, 42, 32, 97, 10, 42, 32, 98, 32, 42, 47], [13, 10]]
def gapsL : List (List UInt8) := [[32], [10], [9, 32], [32, 47, 47, 32, 110, 111, 116, 101, 32, 42, 32, 47, 10], [32, 47, 42, 32, 97, 32, 42, 47, 32], [13, 10, 10], [32, 47, 42, 42, 47, 32]]
def tokL : List (List UInt8 × Tok) := [
  ([97], ⟨1, [97], 0, 0, 0⟩),
  ([110, 111, 100, 101, 64, 49], ⟨1, [110, 111, 100, 101, 64, 49], 0, 0, 0⟩),
  ([35, 99, 101, 108, 108, 115], ⟨1, [35, 99, 101, 108, 108, 115], 0, 0, 0⟩),
  ([99, 111, 109, 112, 97, 116, 105, 98, 108, 101], ⟨1, [99, 111, 109, 112, 97, 116, 105, 98, 108, 101], 0, 0, 0⟩),
  ([120, 58], ⟨5, [120], 0, 0, 0⟩),
  ([108, 97, 98, 95, 49, 58], ⟨5, [108, 97, 98, 95, 49], 0, 0, 0⟩),
  ([38, 97], ⟨6, [97], 0, 0, 0⟩),
  ([38, 108, 97, 98, 95, 49], ⟨6, [108, 97, 98, 95, 49], 0, 0, 0⟩),
  ([48], ⟨2, [], 0, 0, 0⟩),
  ([55], ⟨2, [], 7, 0, 0⟩),
  ([48, 49, 48], ⟨2, [], 8, 0, 0⟩),
  ([48, 120, 49, 102], ⟨2, [], 31, 0, 0⟩),
  ([48, 120, 70, 70, 70, 70, 70, 70, 70, 70], ⟨2, [], 4294967295, 0, 0⟩),
  ([52, 50, 57, 52, 57, 54, 55, 50, 57, 53], ⟨2, [], 4294967295, 0, 0⟩),
  ([34, 116, 101, 120, 116, 34], ⟨3, [116, 101, 120, 116], 0, 0, 0⟩),
  ([34, 97, 92, 110, 92, 120, 52, 49, 92, 34, 34], ⟨3, [97, 10, 65, 34], 0, 0, 0⟩),
  ([47, 105, 110, 99, 108, 117, 100, 101, 47], ⟨7, [105, 110, 99, 108, 117, 100, 101], 0, 0, 0⟩),
  ([47, 100, 101, 108, 101, 116, 101, 45, 110, 111, 100, 101, 47], ⟨7, [100, 101, 108, 101, 116, 101, 45, 110, 111, 100, 101], 0, 0, 0⟩),
  ([47], ⟨4, [47], 0, 0, 0⟩),
  ([123], ⟨4, [123], 0, 0, 0⟩),
  ([125], ⟨4, [125], 0, 0, 0⟩),
  ([40], ⟨4, [40], 0, 0, 0⟩),
  ([41], ⟨4, [41], 0, 0, 0⟩),
  ([60], ⟨4, [60], 0, 0, 0⟩),
  ([62], ⟨4, [62], 0, 0, 0⟩),
  ([91], ⟨4, [91], 0, 0, 0⟩),
  ([93], ⟨4, [93], 0, 0, 0⟩),
  ([59], ⟨4, [59], 0, 0, 0⟩),
  ([61], ⟨4, [61], 0, 0, 0⟩),
  ([44], ⟨4, [44], 0, 0, 0⟩),
  ([43], ⟨4, [43], 0, 0, 0⟩),
  ([45], ⟨4, [45], 0, 0, 0⟩),
  ([42], ⟨4, [42], 0, 0, 0⟩),
  ([37], ⟨4, [37], 0, 0, 0⟩),
  ([60, 60], ⟨4, [60, 60], 0, 0, 0⟩),
  ([62, 62], ⟨4, [62, 62], 0, 0, 0⟩),
  ([60, 61], ⟨4, [60, 61], 0, 0, 0⟩),
  ([62, 61], ⟨4, [62, 61], 0, 0, 0⟩),
  ([61, 61], ⟨4, [61, 61], 0, 0, 0⟩),
  ([33, 61], ⟨4, [33, 61], 0, 0, 0⟩),
  ([38, 38], ⟨4, [38, 38], 0, 0, 0⟩),
  ([124, 124], ⟨4, [124, 124], 0, 0, 0⟩),
  ([94], ⟨4, [94], 0, 0, 0⟩),
  ([126], ⟨4, [126], 0, 0, 0⟩),
  ([33], ⟨4, [33], 0, 0, 0⟩),
  ([63], ⟨4, [63], 0, 0, 0⟩),
  ([58], ⟨4, [58], 0, 0, 0⟩),
  ([124], ⟨4, [124], 0, 0, 0⟩),
  ([38], ⟨4, [38], 0, 0, 0⟩)]
/-- The first byte of what separates. -/
def gapC (c : UInt8) : Prop := c = 32 ∨ c = 10 ∨ c = 9 ∨ c = 13
theorem tok_next (r : List UInt8) (c : UInt8) (hc : gapC c) : ∀ x ∈ tokL, nextT (x.1 ++ c :: r) = (x.2, x.1.length, 0) := by
  intro x hx
  simp only [tokL, List.mem_cons, List.not_mem_nil, or_false] at hx
  rcases hc with rfl | rfl | rfl | rfl <;> rcases hx with rfl | rfl | rfl | rfl | rfl | rfl | rfl | rfl | rfl | rfl | rfl | rfl | rfl | rfl | rfl | rfl | rfl | rfl | rfl | rfl | rfl | rfl | rfl | rfl | rfl | rfl | rfl | rfl | rfl | rfl | rfl | rfl | rfl | rfl | rfl | rfl | rfl | rfl | rfl | rfl | rfl | rfl | rfl | rfl | rfl | rfl | rfl | rfl | rfl <;> kernel_rfl
theorem tok_blk (n : Nat) (r : List UInt8) (c : UInt8) (hc : gapC c) : ∀ x ∈ tokL, blk (n + 1) (x.1 ++ c :: r) = (0, false) := by
  intro x hx
  simp only [tokL, List.mem_cons, List.not_mem_nil, or_false] at hx
  rcases hc with rfl | rfl | rfl | rfl <;> rcases hx with rfl | rfl | rfl | rfl | rfl | rfl | rfl | rfl | rfl | rfl | rfl | rfl | rfl | rfl | rfl | rfl | rfl | rfl | rfl | rfl | rfl | rfl | rfl | rfl | rfl | rfl | rfl | rfl | rfl | rfl | rfl | rfl | rfl | rfl | rfl | rfl | rfl | rfl | rfl | rfl | rfl | rfl | rfl | rfl | rfl | rfl | rfl | rfl | rfl <;> kernel_rfl
theorem tok_pos : ∀ x ∈ tokL, 1 ≤ x.1.length := by decide

theorem blk_sep1 (n : Nat) (c : UInt8) (r : List UInt8) (hc : gapC c) : blk (n + 1) (c :: r) = ((blk n r).1 + 1, (blk n r).2) := by
  rcases hc with rfl | rfl | rfl | rfl <;> kernel_rfl
theorem blk_w1 (n : Nat) (r : List UInt8) : blk (n + 2) ([47, 47, 32, 110, 111, 116, 101, 10] ++ r) = ((blk n r).1 + 1 + 7, (blk n r).2) := by kernel_rfl
theorem blk_w2 (n : Nat) (r : List UInt8) : blk (n + 1) ([47, 42, 32, 97, 10, 42, 32, 98, 32, 42, 47] ++ r) = ((blk n r).1 + 11, (blk n r).2) := by kernel_rfl
theorem blk_w3 (n : Nat) (r : List UInt8) : blk (n + 2) ([47, 47, 32, 110, 111, 116, 101, 32, 42, 32, 47, 10] ++ r) = ((blk n r).1 + 1 + 11, (blk n r).2) := by kernel_rfl
theorem blk_w4 (n : Nat) (r : List UInt8) : blk (n + 1) ([47, 42, 32, 97, 32, 42, 47] ++ r) = ((blk n r).1 + 7, (blk n r).2) := by kernel_rfl
theorem blk_w5 (n : Nat) (r : List UInt8) : blk (n + 1) ([47, 42, 42, 47] ++ r) = ((blk n r).1 + 4, (blk n r).2) := by kernel_rfl
/-- Bytes that only separate. -/
def White (x : List UInt8) : Prop := ∀ r, blk (x ++ r).length (x ++ r) = (x.length + (blk r.length r).1, (blk r.length r).2)
theorem White.append {x y : List UInt8} (hx : White x) (hy : White y) : White (x ++ y) := by
  intro r
  rw [List.append_assoc, hx, hy]
  simp only [List.length_append]
  rw [Nat.add_assoc]
theorem White.one {c : UInt8} (hc : gapC c) : White [c] := by
  intro r
  rw [show ([c] ++ r) = c :: r from rfl, List.length_cons, blk_sep1 _ _ _ hc]
  simp; omega
theorem White.of {x : List UInt8} (k m : Nat) (hl : x.length = m) (h : ∀ n r, blk (n + k) (x ++ r) = ((blk n r).1 + m, (blk n r).2)) : White x := by
  intro r
  rw [← blk_fuel ((x ++ r).length + k) (x ++ r) (by omega), h, blk_fuel _ r (by simp), hl]
  simp; omega
theorem White.nil : White [] := by intro r; simp
theorem white_note1 : White [47, 47, 32, 110, 111, 116, 101, 10] := White.of 2 8 rfl (fun n r => blk_w1 n r)
theorem white_note2 : White [47, 42, 32, 97, 10, 42, 32, 98, 32, 42, 47] := White.of 1 11 rfl (fun n r => blk_w2 n r)
theorem white_note3 : White [47, 47, 32, 110, 111, 116, 101, 32, 42, 32, 47, 10] := White.of 2 12 rfl (fun n r => blk_w3 n r)
theorem white_note4 : White [47, 42, 32, 97, 32, 42, 47] := White.of 1 7 rfl (fun n r => blk_w4 n r)
theorem white_note5 : White [47, 42, 42, 47] := White.of 1 4 rfl (fun n r => blk_w5 n r)
theorem g32 : gapC 32 := .inl rfl
theorem g10 : gapC 10 := .inr (.inl rfl)
theorem g9 : gapC 9 := .inr (.inr (.inl rfl))
theorem g13 : gapC 13 := .inr (.inr (.inr rfl))
theorem white_blanks : ∀ x ∈ blanksL, White x := by
  intro x hx
  simp only [blanksL, List.mem_cons, List.not_mem_nil, or_false] at hx
  rcases hx with rfl | rfl | rfl | rfl | rfl | rfl
  · exact .one g32
  · exact .one g10
  · exact .one g9
  · exact white_note1
  · exact white_note2
  · exact (White.one g13).append (.one g10)
theorem white_gaps : ∀ x ∈ gapsL, White x := by
  intro x hx
  simp only [gapsL, List.mem_cons, List.not_mem_nil, or_false] at hx
  rcases hx with rfl | rfl | rfl | rfl | rfl | rfl | rfl
  · exact .one g32
  · exact .one g10
  · exact (White.one g9).append (.one g32)
  · exact (White.one g32).append white_note3
  · exact ((White.one g32).append white_note4).append (.one g32)
  · exact ((White.one g13).append (.one g10)).append (.one g10)
  · exact ((White.one g32).append white_note5).append (.one g32)
theorem gaps_head : ∀ x ∈ gapsL, ∃ c r, x = c :: r ∧ gapC c := by
  intro x hx
  simp only [gapsL, List.mem_cons, List.not_mem_nil, or_false] at hx
  rcases hx with rfl | rfl | rfl | rfl | rfl | rfl | rfl
  · exact ⟨_, _, rfl, g32⟩
  · exact ⟨_, _, rfl, g10⟩
  · exact ⟨_, _, rfl, g9⟩
  · exact ⟨_, _, rfl, g32⟩
  · exact ⟨_, _, rfl, g32⟩
  · exact ⟨_, _, rfl, g13⟩
  · exact ⟨_, _, rfl, g32⟩

theorem rdA_white {x : List UInt8} (hx : White x) (file : Int) (f : Nat) (r : List UInt8) (p : Int × Int) (acc : List Tok) :
    rdA file (f + 1) (x ++ r) p acc = rdA file (f + 1) r (adv x p) acc := by
  have ht : (x ++ r).take (x.length + (blk r.length r).1) = x ++ r.take (blk r.length r).1 := by rw [List.take_append, List.take_of_length_le (by omega)]; simp
  have hd : (x ++ r).drop (x.length + (blk r.length r).1) = r.drop (blk r.length r).1 := by rw [List.drop_append]; simp
  simp only [rdA, hx r, ht, hd, adv_append]

/-- What a token says but for its place. -/
def bare (t : Tok) : Int × List UInt8 × Int := (t.kind, t.text, t.value)
def sayL (x : List UInt8) : Option (Int × List UInt8 × Int) := (tokL.lookup x).map bare
theorem say_blank : ∀ x ∈ blanksL, sayL x = none := by decide
theorem say_tok : ∀ x ∈ tokL, sayL x.1 = some (bare x.2) := by decide

theorem rdA_pairs (file : Int) : ∀ (l : List (List UInt8 × List UInt8)) (f : Nat) (p : Int × Int) (acc : List Tok),
    (∀ x ∈ l, (x.1 ∈ blanksL ∨ x.1 ∈ tokL.map Prod.fst) ∧ x.2 ∈ gapsL) → l.length ≤ f → acc.length + l.length < 6000 →
    ∃ toks : List Tok, rdA file (f + 1) (l.flatMap fun x => x.1 ++ x.2) p acc = (acc ++ toks, (0, 0, 0), 0) ∧ toks.map bare = (l.map Prod.fst).filterMap sayL ++ [(8, [], 0)] := by
  intro l
  induction l with
  | nil =>
    intro f p acc _ _ hn
    refine ⟨[⟨8, [], 0, p.1, p.2⟩], ?_, rfl⟩
    simp only [List.flatMap_nil, rdA]
    simp only [List.length_nil, Nat.add_zero] at hn
    rw [show blk ([] : List UInt8).length [] = (0, false) from rfl]
    simp only [List.take_nil, List.drop_nil, adv]
    rw [if_neg (by simp), if_neg (by omega)]
    simp
  | cons x l ih =>
    intro f p acc hx hf hn
    obtain ⟨p1, g1⟩ := x
    have h1 := hx (p1, g1) (by simp)
    simp only at h1
    simp only [List.length_cons] at hf hn
    simp only [List.flatMap_cons, List.append_assoc]
    have hr : ∀ y ∈ l, (y.1 ∈ blanksL ∨ y.1 ∈ tokL.map Prod.fst) ∧ y.2 ∈ gapsL := fun y hy => hx y (by simp [hy])
    have hw := white_gaps g1 h1.2
    rcases h1.1 with hb | ht
    · rw [rdA_white (white_blanks p1 hb), rdA_white hw]
      obtain ⟨toks, e1, e2⟩ := ih f (adv g1 (adv p1 p)) acc hr (by omega) (by omega)
      refine ⟨toks, e1, ?_⟩
      simp only [List.map_cons, List.filterMap_cons, say_blank p1 hb]
      exact e2
    · obtain ⟨t, ht1, rfl⟩ := List.mem_map.1 ht
      obtain ⟨f, rfl⟩ : ∃ f', f = f' + 1 := ⟨f - 1, by omega⟩
      obtain ⟨c, g2, rfl, hc⟩ := gaps_head g1 h1.2
      have e0 := tok_next (g2 ++ l.flatMap fun x => x.1 ++ x.2) c hc t ht1
      have e1 : blk (t.1 ++ (c :: g2 ++ l.flatMap fun x => x.1 ++ x.2)).length (t.1 ++ (c :: g2 ++ l.flatMap fun x => x.1 ++ x.2)) = (0, false) := by
        rw [← blk_fuel ((t.1 ++ (c :: g2 ++ l.flatMap fun x => x.1 ++ x.2)).length + 1) _ (by omega)]
        exact tok_blk _ _ c hc t ht1
      have hp := tok_pos t ht1
      rw [rdA]
      simp only [e1, List.drop_zero, List.take_zero, adv]
      rw [if_neg (by simp), if_neg (by omega), if_neg (by intro e; have := congrArg List.length e; simp at this)]
      simp only [List.cons_append] at e0 ⊢
      rw [e0]
      simp only []
      rw [if_neg (by simp), List.drop_left, List.take_left]
      rw [show c :: (g2 ++ l.flatMap fun x => x.1 ++ x.2) = (c :: g2) ++ l.flatMap fun x => x.1 ++ x.2 from rfl, rdA_white hw]
      obtain ⟨toks, e2, e3⟩ := ih f (adv (c :: g2) (adv t.1 p)) (acc ++ [{ t.2 with line := p.1, col := p.2 }]) hr (by omega) (by simp; omega)
      refine ⟨{ t.2 with line := p.1, col := p.2 } :: toks, ?_, ?_⟩
      · rw [e2]; simp
      · simp only [List.map_cons, List.filterMap_cons, say_tok t ht1, e3]; rfl
def tokSame (a b : List Tok) : Prop := a.map bare = b.map bare
theorem pairs_len : ∀ (l : List (List UInt8 × List UInt8)), (∀ x ∈ l, (x.1 ∈ blanksL ∨ x.1 ∈ tokL.map Prod.fst) ∧ x.2 ∈ gapsL) → l.length ≤ (l.flatMap fun x => x.1 ++ x.2).length := by
  intro l
  induction l with
  | nil => intro _; simp
  | cons x l ih =>
    intro h
    have := ih (fun y hy => h y (by simp [hy]))
    obtain ⟨c, r, e, _⟩ := gaps_head _ (h x (by simp)).2
    simp only [List.flatMap_cons, List.length_cons, List.length_append, e]
    omega
theorem readT_pairs (file : Int) (l : List (List UInt8 × List UInt8)) (hl : ∀ x ∈ l, (x.1 ∈ blanksL ∨ x.1 ∈ tokL.map Prod.fst) ∧ x.2 ∈ gapsL) (hn : l.length < 6000)
    (hs : (l.flatMap fun x => x.1 ++ x.2).length ≤ 16000) : ∃ toks : List Tok, readT (l.flatMap fun x => x.1 ++ x.2) file = (toks, (0, 0, 0), 0) ∧ toks.map bare = (l.map Prod.fst).filterMap sayL ++ [(8, [], 0)] := by
  unfold readT
  rw [if_neg (by omega)]
  have := rdA_pairs file l _ (1, 1) [] hl (pairs_len l hl) (by simpa using hn)
  simpa using this
end Go.Proofs.Ytdigoicdgeebhaa
