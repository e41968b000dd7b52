/- Contracts of bringupgrow: Tree (loop 1 done; loop 2 not yet). -/
import Derived.Test.YtjfkjnakmmkkiaaGreatZ13
import Derived.Test.YtjfkjnakmmkkiaaGreatZ20

namespace Go.Proofs.YtjfkjnakmmkkiaaGreat
open Go.RowKit

/-- Tree in its first loop. -/
def TreA (B b base Z : Nat) (m : Int) (W w : World) : Prop := ∃ v T, Tape B w b ∧ Holds w Z #[v] 25 ∧ TreeRow w base v T ∧ checkT T = 0 ∧ (T.length : Int) ≤ m ∧ Keeps (fun i => i = b ∨ i = Z) W w

set_option maxHeartbeats 4000000 in
set_option maxRecDepth 100000 in
theorem grow_Tree (B b : Nat) (n : Int) (w : World) (h : Tape B w b) (hn : 0 ≤ n) (hn2 : n ≤ 30) :
    Calls Tryz.prog 33 #[.pointer (some ⟨b, 0, none⟩), .int .i64 n] w fun e w' => ∃ v T, e = .returned (.agg #[v]) ∧ TreeRow w' w.heap.size v T ∧ checkT T = 0 ∧ (T.length : Int) ≤ n + 1 ∧ Tape B w' b ∧ Keeps (· = b) w w' := by
  have hlt := h.lt
  have hBw : B ≤ w.heap.size := Nat.le_trans h.1 (Nat.le_of_lt hlt)

  have hb0 : Below w.heap.size w (w.alloc (.cells #[.slice none 0 0] 25)) := (Below.refl _ _).alloc (Nat.le_refl _) _
  have hr0 := root_row (w.alloc (.cells #[.slice none 0 0] 25)) w.heap.size (w.heap.size + 1) (by simp) (by omega)
  have hH0 := (Holds.new w #[.slice none 0 0] 25).alloc (.cells #[.int .i64 (-1), .string ⟨#[]⟩, .slice none 0 0] 76)
  have hw1 : IntKind.i64.wrap (n + 1) = n + 1 := IntWalk.i64_in _ (by omega)
  go_enter Tryz.func33, Tryz.ntmps33
  go_wp2_with fail
  have hZn := Holds.newAt (w := (w.alloc (.cells #[.slice none 0 0] 25)).alloc (.cells #[.int .i64 (-1), .string ⟨#[]⟩, .slice none 0 0] 76)) (B := w.heap.size + 1 + 1) (by simp) #[.slice (some ⟨w.heap.size + 1, 0, none⟩) 1 1] 25
  have hb1 : Below w.heap.size w (((w.alloc (.cells #[.slice none 0 0] 25)).alloc (.cells #[.int .i64 (-1), .string ⟨#[]⟩, .slice none 0 0] 76)).alloc (.cells #[.slice (some ⟨w.heap.size + 1, 0, none⟩) 1 1] 25)) := (hb0.alloc (by simp) _).alloc (by simp; omega) _
  refine (mk_N B b (n + 1) _ (by exact h.new hb1) (by omega) (by omega)).mono ?_
  rintro e w1 ⟨r, rfl, hr1, hr2, ht1, k1⟩
  have hZ1 := hZn.keeps k1 (by omega)
  have hR1 := ((hr0.new (by exact (Below.refl _ _).alloc (Nat.le_refl _) _)).tape (by exact h.new hb1) k1)
  have hK1 := (Keeps.of_fresh hb1 (fun i => i = b)).trans k1 (fun _ _ e => e)
  have hZ1b : w.heap.size + 1 + 1 ≠ b := by omega
  have hszw : w.heap.size + 1 + 1 < w1.heap.size := hZ1.lt
  have hA0 : TreA B b w.heap.size (w.heap.size + 1 + 1) 1 w1 w1 := ⟨_, _, ht1, hZ1, (by simpa using hR1), root_valid, by simp [rootT], Keeps.refl _ _⟩
  have hZB : B ≤ w.heap.size + 1 + 1 := by omega
  have hbs : w.heap.size ≤ w1.heap.size := by omega
  clear hZ1 hR1 ht1 hZn hr0 hb0 hb1
  generalize hZdef : w.heap.size + 1 + 1 = Z at *
  generalize hRdef : w.heap.size = base at *
  go_upto_block 0 with fail
  go_cut [] (fun wx => TreA B b base Z (n + 1) w1 wx)
  case first =>
    go_wp2_with fail
    go_loopg [6] (r.toNat) (fun f x wr => ∃ (q m : Int), x = .int .i64 q ∧ 0 ≤ q ∧ q.toNat ≤ f ∧ m + q = r + 1 ∧ TreA B b base Z m w1 wr)
    case atStart => exact ⟨r, 1, rfl, hr1, by omega, by omega, hA0⟩
    case round =>
      obtain ⟨q, m, rfl, hq0, hqf, hqm, v, T, hT, hZ, hr, hs, hl, hk⟩ := hrel
      by_cases hq : 0 < q
      · have hX := hZ.cell 0
        have hXf := hZ.free 0
        have hs1 := (limits_len (check_limits hs)).1
        have hbx : base ≤ wr.heap.size := Nat.le_trans hbs hk.size
        have hl2 : T.length ≤ 1000 := by omega
        go_wp2_with fail
        refine (grow_Step B b base v T _ hT hr hs1 hl2 hbx).mono ?_
        rintro e w2 ⟨v2, T2, rfl, hr2, hst, hT2, hk2⟩
        obtain ⟨a2, c2, rfl⟩ := hr2.slice
        have hZ2 := hZ.keeps hk2 hZ1b
        have y0 := hZ2.cell 0
        have yf := hZ2.free 0
        have hlen2 : checkT T2 = 0 ∧ (T2.length : Int) ≤ m + 1 := by
          rcases hst with rfl | h2
          · exact ⟨hs, by omega⟩
          · obtain ⟨sq, nq, hq, eq⟩ := h2 rfl
            obtain ⟨h3, h4⟩ := add_valid hq
            rw [← eq] at h3 h4
            exact ⟨h3, by omega⟩
        have k1 : Keeps (· = Z) w2 (w2.setCell ⟨Z, 0, none⟩ (.slice a2 T2.length c2)) := (Keeps.refl (· = Z) w2).setCell (p := ⟨Z, 0, none⟩) (Or.inr rfl) _
        have hfin : TreA B b base Z (m + 1) w1 (w2.setCell ⟨Z, 0, none⟩ (.slice a2 T2.length c2)) :=
          ⟨_, T2, hT2.keeps k1 (fun i e => by subst e; exact ⟨hZB, hZ1b⟩), hZ2.set 0 _, hr2.set hZ2 (by decide) (by decide) 0 _, hlen2.1, hlen2.2, (hk.trans (hk2.mono (fun i _ e => show i = b ∨ i = Z from Or.inl e)) (fun _ _ e => e)).trans (k1.mono (fun i _ e => show i = b ∨ i = Z from Or.inr e)) (fun _ _ e => e)⟩
        have HF := Lib.hid hfin
        clear hfin hlen2 hst
        go_wp2_with fail
        go_roundg (q - 1).toNat
        case measure => omega
        case rel => exact ⟨q - 1, m + 1, rfl, by omega, by omega, by omega, HF.out⟩
      · have hq0 : q = 0 := by omega
        subst hq0
        have hfin : TreA B b base Z (n + 1) w1 wr := ⟨v, T, hT, hZ, hr, hs, by omega, hk⟩
        have HF := Lib.hid hfin
        clear hfin
        go_wp2_with fail
        go_meet
        case rel => exact HF.out
  case rest =>
    obtain ⟨v, T, hT, hZ, hr, hs, hl, hk⟩ := hcut
    have hX := hZ.cell 0
    have hXf := hZ.free 0
    have hw2 : IntKind.i64.wrap (2 * n) = 2 * n := IntWalk.i64_in _ (by omega)
    have hw3 : IntKind.i64.wrap (2 * n + 1) = 2 * n + 1 := IntWalk.i64_in _ (by omega)
    go_wp2_with fail
    refine (mk_N B b (2 * n + 1) _ (by exact hT) (by omega) (by omega)).mono ?_
    rintro e w3 ⟨r2, rfl, hr21, hr22, ht3, k3⟩
    have hA3 : TreA B b base Z (n + 1) w1 w3 := ⟨v, T, ht3, hZ.keeps k3 hZ1b, hr.tape hT k3, hs, hl, hk.trans k3 (fun i _ e => Or.inl e)⟩
    clear hT hZ hr hs hl hk hX hXf k3 ht3
    go_wp2_with fail
    go_loopg [7] (r2.toNat) (fun f x wr => ∃ q : Int, x = .int .i64 q ∧ 0 ≤ q ∧ q.toNat ≤ f ∧ q ≤ r2 ∧ TreA B b base Z (n + 1) w1 wr)
    case atStart => exact ⟨r2, rfl, hr21, by omega, by omega, hA3⟩
    case round =>
      obtain ⟨q, rfl, hq0, hqf, hqr, v, T, hT, hZ, hr, hs, hl, hk⟩ := hrel
      have hX := hZ.cell 0
      have hXf := hZ.free 0
      by_cases hq : 0 < q
      · have hl2 : T.length ≤ 1000 := by omega
        have hs1 := (limits_len (check_limits hs)).1
        have hbx : base ≤ wr.heap.size := Nat.le_trans hbs hk.size
        have htb := hT.lt
        have hzl := hZ.lt
        have hBr : B ≤ wr.heap.size := by omega
        have HS := Lib.hid hs
        have HK := Lib.hid hk
        have hS0 : GsS B b base Z v T wr wr.drew := ⟨hT.keeps ((Keeps.refl (fun _ => False) _).drew) (fun _ e => e.elim), hr, hZ, (Keeps.refl _ _).drew⟩
        clear hT hr hs hk hX hXf
        go_wp2_with fail
        refine wp_region_any (by kernel_rfl) ?_
        refine wpAny_ops (ops' := grtOps 9) (by kernel_rfl) ?_
        refine grt_region9 B b base Z v T wr _ _ rfl hzl htb hBr hbx hZ1b hs1 hl2 rfl rfl (by exact hS0) ?_
        intro c w2 sv er T2 N hsb hS2 e8 hN e9 hr2 hst hNq
        obtain ⟨y8, y9, y33, y34, y35, y36, y37, y38, y39, y40, y41, y42, y43, y44, hc⟩ := hsb.ex [8, 9, 33, 34, 35, 36, 37, 38, 39, 40, 41, 42, 43, 44] (by kernel_rfl)
        subst hc
        simp only [List.setIfInBounds_toArray, List.set_cons_zero, List.set_cons_succ] at e8 e9 ⊢
        have e8' : y8 = .pointer (some ⟨N, 0, none⟩) := e8
        have e9' : y9 = .int .i64 er := e9
        subst e8'
        subst e9'
        obtain ⟨sa, sc, rfl⟩ := hr2.slice
        have hKw := HK.out.trans hS2.2.2.2 (fun i _ e => show i = b ∨ i = Z from Or.inl e)
        by_cases he : er = 0
        · subst he
          obtain ⟨s, nm, va, hq2, hT2⟩ := hst rfl
          obtain ⟨hc2, hl3⟩ := set_valid hq2
          rw [← hT2] at hc2 hl3
          have hZ2 := hS2.2.2.1
          have kz : Keeps (· = Z) w2 (w2.setCell ⟨Z, 0, none⟩ (.slice sa T2.length sc)) := (Keeps.refl (· = Z) w2).setCell (p := ⟨Z, 0, none⟩) (Or.inr rfl) _
          have HF := Lib.hid (show TreA B b base Z (n + 1) w1 (w2.setCell ⟨Z, 0, none⟩ (.slice sa T2.length sc)) from
            ⟨_, T2, hS2.1.keeps kz (fun i e => by subst e; exact ⟨hZB, hZ1b⟩), hZ2.set 0 _, hr2.set hZ2 (by decide) (by decide) 0 _, hc2, by omega, hKw.trans kz (fun i _ e => Or.inr e)⟩)
          have n0 := hN.cell 0
          have z0 := hZ2.cell 0
          have z1 := hZ2.free 0
          clear hS2 hZ2 hr2 hst hc2 hT2 hq2 hN hsb e8 e9 HS HK hKw kz hS0 hl3
          go_wp2_with fail
          go_roundg (q - 1).toNat
          case measure => omega
          case rel => exact ⟨q - 1, rfl, by omega, by omega, by omega, HF.out⟩
        · have he' : (er == 0) = false := by simpa using he
          have HF := Lib.hid (show TreA B b base Z (n + 1) w1 w2 from ⟨v, T, hS2.1, hS2.2.2.1, hS2.2.1, HS.out, hl, hKw⟩)
          clear hS2 hr2 hst hN hsb e8 e9 HS HK hKw hS0 he
          go_wp2_with fail
          go_roundg (q - 1).toNat
          case measure => omega
          case rel => exact ⟨q - 1, rfl, by omega, by omega, by omega, HF.out⟩
      · obtain ⟨qa, qc, rfl⟩ := hr.slice
        have hbZ : base ≠ Z := by omega
        have hbb : base ≠ b := by omega
        have hR1 : Holds w1 base #[.slice none 0 0] 25 := (hH0.alloc (.cells #[.slice (some ⟨base + 1, 0, none⟩) 1 1] 25)).keeps k1 hbb
        have hR := hR1.keeps hk (by omega)
        have hY := hR.cell 0
        have hYf := hR.free 0
        have kz : Keeps (· = base) wr (wr.setCell ⟨base, 0, none⟩ (.slice qa T.length qc)) := (Keeps.refl (· = base) wr).setCell (p := ⟨base, 0, none⟩) (Or.inr rfl) _
        have q0 := (hR.set 0 (.slice qa T.length qc)).cell 0
        have HF := Lib.hid (show TreeRow (wr.setCell ⟨base, 0, none⟩ (.slice qa T.length qc)) base (.slice qa T.length qc) T ∧ checkT T = 0 ∧ (T.length : Int) ≤ n + 1 ∧ Tape B (wr.setCell ⟨base, 0, none⟩ (.slice qa T.length qc)) b ∧ Keeps (· = b) w (wr.setCell ⟨base, 0, none⟩ (.slice qa T.length qc)) from
          ⟨hr.set hR (by decide) (by decide) 0 _, hs, hl, hT.keeps kz (fun i e => by subst e; exact ⟨hBw, hbb⟩),
            hK1.trans ((hk.mono (fun i _ e => (show i = b ∨ i = Z ∨ i = base from by omega))).trans kz (fun i _ e => (show i = b ∨ i = Z ∨ i = base from by omega))) (fun i hi e => by omega)⟩)
        clear hT hr hs hk hR hR1 hZ kz
        go_wp2_with fail
        exact bodyPost_ret (v := .agg #[.slice qa T.length qc]) (by simp [results, Tryz.results33, go_sem, q0]) rfl ⟨_, rfl, _, HF.out⟩
end Go.Proofs.YtjfkjnakmmkkiaaGreat
