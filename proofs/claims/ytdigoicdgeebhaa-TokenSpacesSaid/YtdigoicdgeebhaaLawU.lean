/- The law TokenSpaces: its walk. -/
import Derived.Test.YtdigoicdgeebhaaMakeB
import Derived.Test.YtdigoicdgeebhaaRefL
import Derived.Test.YtdigoicdgeebhaaLawO
import Derived.Test.YtdigoicdgeebhaaSpcP
import Derived.Test.YtdigoicdgeebhaaLawS
namespace Go.Proofs.Ytdigoicdgeebhaa
open Go.RowKit

def lGap : List ByteArray := [⟨#[32]⟩, ⟨#[10]⟩, ⟨#[9, 32]⟩, ⟨#[32, 47, 47, 32, 110, 111, 116, 101, 32, 42, 32, 47, 10]⟩, ⟨#[32, 47, 42, 32, 97, 32, 42, 47, 32]⟩, ⟨#[13, 10, 10]⟩, ⟨#[32, 47, 42, 42, 47, 32]⟩]
theorem lGap_ok : ∀ s ∈ lGap, s.data.toList ∈ gapsL ∧ s.size ≤ 20 := by decide
theorem lPiece_ok : ∀ s ∈ lPiece, s.data.toList ∈ blanksL ∨ s.data.toList ∈ tokL.map Prod.fst := by decide
abbrev Trip : Type := List UInt8 × List UInt8 × List UInt8
def TripOk (x : Trip) : Prop := (x.1 ∈ blanksL ∨ x.1 ∈ tokL.map Prod.fst) ∧ x.2.1 ∈ gapsL ∧ x.2.2 ∈ gapsL
def tripA (L : List Trip) : List UInt8 := (L.map fun x => (x.1, x.2.1)).flatMap fun x => x.1 ++ x.2
def tripB (L : List Trip) : List UInt8 := (L.map fun x => (x.1, x.2.2)).flatMap fun x => x.1 ++ x.2
theorem tripA_snoc (L : List Trip) (x : Trip) : tripA (L ++ [x]) = tripA L ++ (x.1 ++ x.2.1) := by simp [tripA]
theorem tripB_snoc (L : List Trip) (x : Trip) : tripB (L ++ [x]) = tripB L ++ (x.1 ++ x.2.2) := by simp [tripB]
theorem trip_read (L : List Trip) (h : ∀ x ∈ L, TripOk x) (hn : L.length ≤ 20) (ha : (tripA L).length ≤ 1000) (hb : (tripB L).length ≤ 1000) :
    ∃ s t : List Tok, readT (tripA L) 0 = (s, (0, 0, 0), 0) ∧ readT (tripB L) 0 = (t, (0, 0, 0), 0) ∧ s.map bare = t.map bare := by
  have h1 : ∀ x ∈ L.map fun x => (x.1, x.2.1), (x.1 ∈ blanksL ∨ x.1 ∈ tokL.map Prod.fst) ∧ x.2 ∈ gapsL := by
    intro x hx; obtain ⟨y, hy, rfl⟩ := List.mem_map.1 hx; exact ⟨(h y hy).1, (h y hy).2.1⟩
  have h2 : ∀ x ∈ L.map fun x => (x.1, x.2.2), (x.1 ∈ blanksL ∨ x.1 ∈ tokL.map Prod.fst) ∧ x.2 ∈ gapsL := by
    intro x hx; obtain ⟨y, hy, rfl⟩ := List.mem_map.1 hx; exact ⟨(h y hy).1, (h y hy).2.2⟩
  obtain ⟨s, e1, e2⟩ := readT_pairs 0 _ h1 (by simp; omega) (by show (tripA L).length ≤ 16000; omega)
  obtain ⟨t, e3, e4⟩ := readT_pairs 0 _ h2 (by simp; omega) (by show (tripB L).length ≤ 16000; omega)
  refine ⟨s, t, e1, e3, ?_⟩
  rw [e2, e4, List.map_map, List.map_map]
  rfl
theorem bare_at {s t : List Tok} (h : s.map bare = t.map bare) (k : Nat) (h1 : k < s.length) (h2 : k < t.length) : s[k].kind = t[k].kind ∧ s[k].text = t[k].text ∧ s[k].value = t[k].value := by
  have e : (s.map bare)[k]? = (t.map bare)[k]? := by rw [h]
  simp [List.getElem?_eq_getElem h1, List.getElem?_eq_getElem h2, bare] at e
  exact e
def SpRel (B tb gb : Nat) (w : World) (f : Nat) (x y z : Value) (wr : World) : Prop :=
  ∃ (L : List Trip) (a b : ByteArray) (r : Nat), x = .string a ∧ y = .string b ∧ z = .int .i64 r ∧ r ≤ f ∧ L.length + r ≤ 20 ∧ (∀ t ∈ L, TripOk t) ∧ a.data.toList = tripA L ∧ b.data.toList = tripB L ∧
    a.size + 40 * r ≤ 800 ∧ b.size + 40 * r ≤ 800 ∧ Tape B wr tb ∧ Holds wr gb (lGap.map Value.string).toArray 9 ∧ B ≤ gb ∧ gb ≠ tb ∧ Below B w wr

set_option maxHeartbeats 4000000 in
set_option maxRecDepth 100000 in
theorem spaces_walk (a : Option Addr) (len cap : Nat) (w : World) (hi : IntsIn w a len) (hlc : len ≤ cap) (hcap : cap ≤ maxLen) (hnil : a = none → len = 0 ∧ cap = 0) (h0 : Lay0 w) :
    Calls Try.prog 4 #[.slice a len cap] w fun e w' => e = .returned (.bool true) ∧ Below w.heap.size w w' := by
  go_enter Try.func4, Try.ntmps4
  go_wp2_with fail
  refine (mk_New a len cap _ hi hlc hcap hnil).mono ?_
  rintro e w1 ⟨tb, rfl, hT1, hb1⟩
  have htb := hT1.lt
  have hs1 := hb1.size
  go_wp2_with fail
  refine (mk_N _ _ 20 _ (hT1.keeps ((Keeps.refl (fun _ => False) w1).alloc _) (fun _ e => e.elim)) (by omega) (by omega)).mono ?_
  rintro e w2 ⟨r, rfl, r0, r1, hT2, hK2⟩
  obtain ⟨r, rfl⟩ := Int.eq_ofNat_of_zero_le r0
  have hG2 := (Holds.new w1 (lGap.map Value.string).toArray 9).keeps hK2 (by omega)
  have hb2 : Below w.heap.size w w2 := (hb1.alloc hs1 _).trans (hK2.below (by simp; omega) (by intro i hi e; have := hT1.1; omega))
  have htb1 := hT1.1
  have hgt : w1.heap.size ≠ tb := by omega
  clear hT1 hK2 hb1
  go_wp2_with fail
  go_loopg [4, 5, 7] r (fun f x y z wr => SpRel w.heap.size tb w1.heap.size w f x y z wr)
  case atStart => exact ⟨[], ByteArray.empty, ByteArray.empty, r, rfl, rfl, rfl, by omega, by simp; omega, by simp, rfl, rfl, by simp; omega, by simp; omega, hT2, hG2, hs1, hgt, hb2⟩
  case round =>
    obtain ⟨L, a, b, r, rfl, rfl, rfl, hf, hL, hok, ha, hb, hsa, hsb, hT, hG, hB, hne, hbel⟩ := hrel
    have HA := Lib.hid ha; clear ha
    have HB := Lib.hid hb; clear hb
    have HOK := Lib.hid hok; clear hok
    by_cases hr : 0 < r
    · go_wp2_with fail
      refine (mk_Piece _ _ _ hT).mono ?_
      rintro e w3 ⟨x, rfl, hx, hT3, hK3⟩
      have hxs := lPiece_size x hx
      have hG3 := hG.keeps hK3 (fun e => hne e)
      have hbs := hbel.size
      have hb3 : Below w.heap.size w w3 := hbel.trans (hK3.below hbs (by intro i hi e; omega))
      go_wp2_with fail
      refine (mk_N _ _ 7 _ hT3 (by omega) (by omega)).mono ?_
      rintro e w4 ⟨k, rfl, k0, k1, hT4, hK4⟩
      obtain ⟨k, rfl⟩ := Int.eq_ofNat_of_zero_le k0
      have hG4 := hG3.keeps hK4 (fun e => hne e)
      obtain ⟨g1, hg1, hg2⟩ := pick_one lGap k (by have : lGap.length = 7 := rfl; omega)
      have hgo := lGap_ok g1 hg2
      have hgs := hgo.2
      have hc : w4.cell? ⟨w1.heap.size, k, none⟩ = some (.string g1) := (hG4.cell k).trans (by simp [hg1])
      obtain ⟨s1, ha1, hs1, hd1⟩ := adds_ex x g1 (by omega)
      obtain ⟨s2, ha2, hs2, hd2⟩ := adds_ex a s1 (by omega)
      unfold Adds at ha1 ha2
      have HD1 := Lib.hid hd1; clear hd1
      have HD2 := Lib.hid hd2; clear hd2
      have hb4 : Below w.heap.size w w4 := hb3.trans (hK4.below hb3.size (by intro i hi e; omega))
      clear hT hT3 hG hG3 hK3 hbel hb3 hK4
      have hgb := hG4.lt
      go_wp2_with fail
      refine (mk_N _ _ 7 _ hT4 (by omega) (by omega)).mono ?_
      rintro e w5 ⟨k', rfl, k0', k1', hT5, hK5⟩
      obtain ⟨k', rfl⟩ := Int.eq_ofNat_of_zero_le k0'
      have hG5 := hG4.keeps hK5 (fun e => hne e)
      obtain ⟨g2, hg1', hg2'⟩ := pick_one lGap k' (by have : lGap.length = 7 := rfl; omega)
      have hgo' := lGap_ok g2 hg2'
      have hgs' := hgo'.2
      have hc' : w5.cell? ⟨w1.heap.size, k', none⟩ = some (.string g2) := (hG5.cell k').trans (by simp [hg1'])
      obtain ⟨s3, ha3, hs3, hd3⟩ := adds_ex x g2 (by omega)
      obtain ⟨s4, ha4, hs4, hd4⟩ := adds_ex b s3 (by omega)
      unfold Adds at ha3 ha4
      have HD3 := Lib.hid hd3; clear hd3
      have HD4 := Lib.hid hd4; clear hd4
      have hb5 : Below w.heap.size w w5 := hb4.trans (hK5.below hb4.size (by intro i hi e; omega))
      clear hc hT4 hG4 hK5 hb4
      go_wp2_with fail
      go_roundg (gk - 1)
      case measure => omega
      case rel =>
        refine ⟨L ++ [((x.data.toList, g1.data.toList, g2.data.toList) : Trip)], s2, s4, r - 1, rfl, rfl, by go_num, by omega, by simp; omega, ?_, ?_, ?_, by omega, by omega, hT5, hG5, hB, hne, hb5⟩
        · intro t ht
          rcases List.mem_append.1 ht with h | h
          · exact HOK.out t h
          · simp only [List.mem_cons, List.not_mem_nil, or_false] at h
            subst h
            exact ⟨lPiece_ok x hx, hgo.1, hgo'.1⟩
        · rw [HD2.out, HD1.out, HA.out, tripA_snoc]
        · rw [HD4.out, HD3.out, HB.out, tripB_snoc]
    · have hr0 : r = 0 := by omega
      subst hr0
      obtain ⟨s, t, e1, e2, e3⟩ := trip_read L HOK.out (by omega) (by rw [← HA.out]; simp; omega) (by rw [← HB.out]; simp; omega)
      rw [← HA.out] at e1
      rw [← HB.out] at e2
      have hL0 : Lay0 wr := h0.keeps (Keeps.of_fresh (hbel) (fun _ => False)) (fun e => e)
      have hr1 := fun wx hl => token_Read a 0 wx (by unfold maxLen; omega) hl
      have hr2 := fun wx hl => token_Read b 0 wx (by unfold maxLen; omega) hl
      unfold ReadPost at hr1 hr2
      rw [e1] at hr1
      rw [e2] at hr2
      unfold posAgg at hr1 hr2
      have hlen1 : s.length ≤ 140737488355328 := by have := reads_len a 0 (by omega); rw [e1] at this; exact this
      have hlen : s.length = t.length := by have := congrArg List.length e3; simpa using this
      have H1 := Lib.hid hr1; clear hr1
      have H2 := Lib.hid hr2; clear hr2
      clear e1 e2
      have E3 := Lib.hid e3; clear e3
      have HL := Lib.hid hlen; clear hlen
      have hbs := hbel.size
      go_wp2_with fail
      refine (H1.out _ hL0).mono ?_
      rintro e w6 ⟨v1, rfl, hown1, hb6⟩
      have hL6 : Lay0 w6 := hL0.keeps (Keeps.of_fresh hb6 (fun _ => False)) (fun e => e)
      have hs6 := hb6.size
      go_wp2_with fail
      refine (H2.out _ (by exact hL6.keeps ((Keeps.refl (fun _ => False) w6).alloc _) (fun e => e))).mono ?_
      rintro e w7 ⟨v2, rfl, hown2, hb7⟩
      have hK7 := Keeps.of_fresh hb7 (fun _ => False)
      have hown3 := ownsRow_keeps (hown1.alloc _) hK7 (fun _ _ e => e)
      have hs7 := hb7.size
      have hb8 : Below w.heap.size w w7 := ((hbel.trans (hb6.mono hbs)).alloc (by omega) _).trans (hb7.mono (by simp; omega))
      obtain ⟨sa, sc, rfl⟩ := ownsRow_shape hown3
      obtain ⟨ta, tc, rfl⟩ := ownsRow_shape hown2
      have hown4 := hown3.alloc (.cells #[.int .i64 0, .int .i64 0, .int .i64 0] 31)
      have hown5 := hown2.alloc (.cells #[.int .i64 0, .int .i64 0, .int .i64 0] 31)
      have O4 := Lib.hid hown4
      have O5 := Lib.hid hown5
      clear hown1 hown2 hown3 hown4 hown5
      rw [← HL.out]
      go_wp2_with fail
      go_loopg [73] (s.length) (fun f y wr => ∃ k n : Nat, k ≤ s.length ∧ s.length ≤ k + f ∧ y = .int .i64 k ∧ wr = (w7.alloc (.cells #[.int .i64 0, .int .i64 0, .int .i64 0] 31)).drewN n)
      case atStart => exact ⟨0, 0, by omega, by omega, rfl, rfl⟩
      case round =>
        obtain ⟨k, n, hk, hf, rfl, rfl⟩ := hrel
        by_cases hlt : k < s.length
        · have hlt2 : k < t.length := by have := HL.out; omega
          obtain ⟨g1, cap1, e1, hc1, hg1, x0, x1, x2, x3, x4, x5⟩ := tok_six O4.out k hlt
          obtain ⟨g2, cap2, e2, hc2, hg2, y0, y1, y2, y3, y4, y5⟩ := tok_six O5.out k hlt2
          simp only [Value.slice.injEq] at e1 e2
          obtain ⟨rfl, _, rfl⟩ := e1
          obtain ⟨rfl, _, rfl⟩ := e2
          obtain ⟨z1, z2, z3⟩ := bare_at E3.out k hlt hlt2
          rw [← z1] at y0
          rw [← z2] at y1
          rw [← z3] at y2
          clear z1 z2 z3
          go_wp2_with fail
          go_quiet (fail)
          go_wp2_with fail
          go_roundg (gk - 1)
          case measure => omega
          case rel => exact ⟨k + 1, _, by omega, by omega, by go_num, rfl⟩
        · have hb9 : Below w.heap.size w ((w7.alloc (.cells #[.int .i64 0, .int .i64 0, .int .i64 0] 31)).drewN n) := below_drewN (hb8.alloc hb8.size _) n
          go_wp2_with fail
          refine (law_awake _ (by exact h0.keeps (Keeps.of_fresh hb9 (fun _ => False)) (fun e => e))).mono ?_
          rintro e w8 ⟨rfl, hb⟩
          go_wp2_with fail
          go_ret
          exact ⟨rfl, hb9.trans (hb.mono hb9.size)⟩
end Go.Proofs.Ytdigoicdgeebhaa
