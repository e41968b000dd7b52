/- The law TokenReads: its walk. -/
import Derived.Test.YtdigoicdgeebhaaMakeB
import Derived.Test.YtdigoicdgeebhaaRefL
import Derived.Test.YtdigoicdgeebhaaLawO
namespace Go.Proofs.Ytdigoicdgeebhaa
open Go.RowKit

theorem four_at (x0 x1 x2 x3 : ByteArray) (n : Nat) (h0 : x0.size ≤ n) (h1 : x1.size ≤ n) (h2 : x2.size ≤ n) (h3 : x3.size ≤ n) (k : Nat) (hk : k < 4) :
    ∃ x : ByteArray, (#[Value.string x0, .string x1, .string x2, .string x3] : Array Value)[k]? = some (.string x) ∧ x.size ≤ n := by
  have : k = 0 ∨ k = 1 ∨ k = 2 ∨ k = 3 := by omega
  rcases this with rfl | rfl | rfl | rfl
  · exact ⟨x0, rfl, h0⟩
  · exact ⟨x1, rfl, h1⟩
  · exact ⟨x2, rfl, h2⟩
  · exact ⟨x3, rfl, h3⟩
theorem rdA_len (file : Int) : ∀ (f : Nat) (l : List UInt8) (p : Int × Int) (acc : List Tok), (rdA file f l p acc).1.length ≤ acc.length + f := by
  intro f
  induction f with
  | zero => intro l p acc; simp [rdA]
  | succ f ih =>
    intro l p acc
    simp only [rdA]
    split
    · simp
    · split
      · simp
      · split
        · simp
        · split
          · simp
          · refine Nat.le_trans (ih _ _ _) ?_
            simp; omega
theorem reads_len (x : ByteArray) (file : Int) (h : x.size ≤ 10000) : (readT x.data.toList file).1.length ≤ 140737488355328 := by
  unfold readT
  split
  · simp
  · refine Nat.le_trans (rdA_len _ _ _ _ _) ?_
    simp; omega
def ReadsRel (g : Nat) (cs : Array Value) (w : World) (f : Nat) (y : Value) (wr : World) : Prop :=
  ∃ k : Nat, k ≤ 4 ∧ 4 ≤ k + f ∧ y = .int .i64 k ∧ Holds wr g cs 9 ∧ Lay0 wr ∧ w.heap.size ≤ g ∧ Below w.heap.size w wr

set_option maxHeartbeats 4000000 in
set_option maxRecDepth 100000 in
theorem reads_walk (a : Option Addr) (len cap : Nat) (raw : ByteArray) (file : Int) (w : World) (hi : IntsIn w a len) (hlc : len ≤ cap) (hcap : cap ≤ maxLen) (hnil : a = none → len = 0 ∧ cap = 0)
    (hs : raw.size ≤ maxLen) (h0 : Lay0 w) :
    Calls Try.prog 3 #[.slice a len cap, .string raw, .int .i64 file] w fun e w' => e = .returned (.bool true) ∧ Below w.heap.size w w' := by
  have hm := hs
  unfold maxLen at hs
  by_cases hlong : 2000 < raw.size
  · go_enter Try.func3, Try.ntmps3
    go_wp2_with fail
    refine (law_awake _ h0).mono ?_
    rintro e w1 ⟨rfl, hb⟩
    go_wp2_with fail
    go_ret
    exact ⟨rfl, hb⟩
  · have hshort : raw.size ≤ 2000 := by omega
    clear hlong
    go_enter Try.func3, Try.ntmps3
    go_wp2_with fail
    refine (mk_New a len cap _ hi hlc hcap hnil).mono ?_
    rintro e w1 ⟨tb, rfl, hT1, hb1⟩
    have htb := hT1.1
    go_wp2_with fail
    refine (mk_Source _ _ 40 _ hT1 (by omega)).mono ?_
    rintro e w2 ⟨x1, rfl, hx1, hT2, hK2⟩
    go_wp2_with fail
    refine (mk_Spoil _ _ x1 _ hT2 (by omega)).mono ?_
    rintro e w3 ⟨x2, rfl, hx2, hT3, hK3⟩
    go_wp2_with fail
    refine (mk_Source _ _ 12 _ hT3 (by omega)).mono ?_
    rintro e w4 ⟨x3, rfl, hx3, hT4, hK4⟩
    go_wp2_with fail
    refine (mk_Spoil _ _ x3 _ hT4 (by omega)).mono ?_
    rintro e w5 ⟨x4, rfl, hx4, hT5, hK5⟩
    go_wp2_with fail
    refine (mk_Spoil _ _ x4 _ hT5 (by omega)).mono ?_
    rintro e w6 ⟨x5, rfl, hx5, hT6, hK6⟩
    have hK : Keeps (· = tb) w1 w6 := (((hK2.trans hK3 (fun _ _ h => h)).trans hK4 (fun _ _ h => h)).trans hK5 (fun _ _ h => h)).trans hK6 (fun _ _ h => h)
    have hb6 : Below w.heap.size w w6 := hb1.trans (hK.below hb1.size (by intro i hi; omega))
    have hs6 := hb6.size
    have hL6 : Lay0 w6 := h0.keeps (Keeps.of_fresh hb6 (fun _ => False)) (fun e => e)
    have hat := four_at raw x1 x2 x5 10000 (by omega) (by omega) (by omega) (by omega)
    clear hT1 hT2 hT3 hT4 hT5 hT6 hK2 hK3 hK4 hK5 hK6 hK hb1 hx1 hx2 hx3 hx4 hx5 htb
    go_wp2_with fail
    go_loopg [38] 4 (fun f y wr => ReadsRel w6.heap.size #[.string raw, .string x1, .string x2, .string x5] w f y wr)
    case atStart => exact ⟨0, by omega, by omega, rfl, Holds.new w6 _ _, hL6.keeps ((Keeps.refl (fun _ => False) w6).alloc _) (fun e => e), hs6, hb6.alloc hs6 _⟩
    case round =>
      obtain ⟨k, hk, hf, rfl, hH, hL, hg, hbel⟩ := hrel
      by_cases hk4 : k < 4
      · obtain ⟨x, hx, hxs⟩ := hat k hk4
        have hc := cell_at hH hx
        have hlt := hH.lt
        have hbs := hbel.size
        clear hat hx
        go_wp2_with fail
        refine (token_Read x file _ (by unfold maxLen; omega) hL).mono ?_
        rintro e w7 ⟨v1, rfl, hown1, hb7⟩
        unfold posAgg
        have href := fun wx => ref_Read x file wx (by unfold maxLen; omega)
        unfold ReadPost at href
        have hlen : (readT x.data.toList file).1.length ≤ 140737488355328 := reads_len x file (by omega)
        generalize readT x.data.toList file = R at hown1 href hlen
        obtain ⟨toks, ⟨p1, p2, p3⟩, er⟩ := R
        simp only at hown1 href hlen
        unfold posAgg at href
        have HRF := Lib.hid href; clear href
        go_wp2_with fail
        refine (HRF.out _).mono ?_
        rintro e w8 ⟨v2, rfl, hown2, hb8⟩
        have hKn : Keeps (fun _ => False) _ w8 := Keeps.of_fresh hb8 _
        have hP := (Holds.new w7 _ _).keeps hKn (fun e => e)
        obtain ⟨q0, q1, q2, q3, q4, q5⟩ := tri hP
        have hltp := hP.lt
        have hown3 := ownsRow_keeps (hown1.alloc _) hKn (fun _ _ e => e)
        have hs8 := hb8.size
        have hs7 := hb7.size
        have hb9 : Below w.heap.size w w8 := ((hbel.trans (hb7.mono hbs)).alloc (by omega) _).trans (hb8.mono (by simp; omega))
        obtain ⟨sa, sc, rfl⟩ := ownsRow_shape hown3
        obtain ⟨ta, tc, rfl⟩ := ownsRow_shape hown2
        go_wp2_with (go_at_call 15; refine (ref_Same file toks _ _ _ _ _ (by exact hown3.alloc _) (by exact hown2.alloc _) hlen).mono ?_; rintro e w9 ⟨rfl, nn, rfl⟩)
        go_roundg (gk - 1)
        case measure => omega
        case rel => 
          have hKk : Keeps (fun _ => False) wr w8 := ((Keeps.of_fresh hb7 _).alloc _).trans hKn (fun _ _ e => e)
          exact ⟨k + 1, by omega, by omega, by go_num, ((hH.keeps hKk (fun e => e)).alloc _).drewN nn, (hL.keeps hKk (fun e => e)).keeps (((Keeps.refl (fun _ => False) w8).alloc _).drewN nn) (fun e => e), hg, below_drewN (hb9.alloc hb9.size _) nn⟩
      · go_wp2_with fail
        refine (law_awake _ hL).mono ?_
        rintro e w7 ⟨rfl, hb⟩
        go_wp2_with fail
        go_ret
        exact ⟨rfl, hbel.trans (hb.mono hbel.size)⟩
end Go.Proofs.Ytdigoicdgeebhaa
