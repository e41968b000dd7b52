/- Contracts of bringupgrow: Tree (loop 1 done; loop 2 not yet). | Contracts of package tree: Children. | The plain law of TreeWalk: children of a valid tree. | The law TreeWalk: its walk. -/
import Derived.Test.YtjfkjnakmmkkiaaZ13
import Derived.Test.YtjfkjnakmmkkiaaZ19
import Derived.Test.YtjfkjnakmmkkiaaZ12
import Derived.Test.YtjfkjnakmmkkiaaZ4

namespace Go.Proofs.Ytjfkjnakmmkkiaa
open Go.RowKit

/-- Tree in its first loop. -/
def TreA (B b base Z : Nat) (m : Int) (W w : World) : Prop := ∃ v T, Tape B w b ∧ Holds w Z #[v] 27 ∧ TreeRow w base v T ∧ checkT T = 0 ∧ (T.length : Int) ≤ m ∧ Keeps (fun i => i = b ∨ i = Z) W w

set_option maxHeartbeats 4000000 in
set_option maxRecDepth 100000 in
theorem grow_Tree (B b : Nat) (n : Int) (w : World) (h : Tape B w b) (hn : 0 ≤ n) (hn2 : n ≤ 30) :
    Calls Try.prog 25 #[.pointer (some ⟨b, 0, none⟩), .int .i64 n] w fun e w' => ∃ v T, e = .returned (.agg #[v]) ∧ TreeRow w' w.heap.size v T ∧ checkT T = 0 ∧ (T.length : Int) ≤ n + 1 ∧ Tape B w' b ∧ Keeps (· = b) w w' := by
  have hlt := h.lt
  have hBw : B ≤ w.heap.size := Nat.le_trans h.1 (Nat.le_of_lt hlt)

  have hb0 : Below w.heap.size w (w.alloc (.cells #[.slice none 0 0] 27)) := (Below.refl _ _).alloc (Nat.le_refl _) _
  have hr0 := root_row (w.alloc (.cells #[.slice none 0 0] 27)) w.heap.size (w.heap.size + 1) (by simp) (by omega)
  have hH0 := (Holds.new w #[.slice none 0 0] 27).alloc (.cells #[.int .i64 (-1), .string ⟨#[]⟩, .slice none 0 0] 42)
  have hw1 : IntKind.i64.wrap (n + 1) = n + 1 := IntWalk.i64_in _ (by omega)
  go_enter Try.func25, Try.ntmps25
  go_wp2_with fail
  have hZn := Holds.newAt (w := (w.alloc (.cells #[.slice none 0 0] 27)).alloc (.cells #[.int .i64 (-1), .string ⟨#[]⟩, .slice none 0 0] 42)) (B := w.heap.size + 1 + 1) (by simp) #[.slice (some ⟨w.heap.size + 1, 0, none⟩) 1 1] 27
  have hb1 : Below w.heap.size w (((w.alloc (.cells #[.slice none 0 0] 27)).alloc (.cells #[.int .i64 (-1), .string ⟨#[]⟩, .slice none 0 0] 42)).alloc (.cells #[.slice (some ⟨w.heap.size + 1, 0, none⟩) 1 1] 27)) := (hb0.alloc (by simp) _).alloc (by simp; omega) _
  refine (mk_N B b (n + 1) _ (by exact h.new hb1) (by omega) (by omega)).mono ?_
  rintro e w1 ⟨r, rfl, hr1, hr2, ht1, k1⟩
  have hZ1 := hZn.keeps k1 (by omega)
  have hR1 := ((hr0.new (by exact (Below.refl _ _).alloc (Nat.le_refl _) _)).tape (by exact h.new hb1) k1)
  have hK1 := (Keeps.of_fresh hb1 (fun i => i = b)).trans k1 (fun _ _ e => e)
  have hZ1b : w.heap.size + 1 + 1 ≠ b := by omega
  have hszw : w.heap.size + 1 + 1 < w1.heap.size := hZ1.lt
  have hA0 : TreA B b w.heap.size (w.heap.size + 1 + 1) 1 w1 w1 := ⟨_, _, ht1, hZ1, (by simpa using hR1), root_valid, by simp [rootT], Keeps.refl _ _⟩
  have hZB : B ≤ w.heap.size + 1 + 1 := by omega
  have hbs : w.heap.size ≤ w1.heap.size := by omega
  clear hZ1 hR1 ht1 hZn hr0 hb0 hb1
  generalize hZdef : w.heap.size + 1 + 1 = Z at *
  generalize hRdef : w.heap.size = base at *
  go_upto_block 0 with fail
  go_cut [] (fun wx => TreA B b base Z (n + 1) w1 wx)
  case first =>
    go_wp2_with fail
    go_loopg [6] (r.toNat) (fun f x wr => ∃ (q m : Int), x = .int .i64 q ∧ 0 ≤ q ∧ q.toNat ≤ f ∧ m + q = r + 1 ∧ TreA B b base Z m w1 wr)
    case atStart => exact ⟨r, 1, rfl, hr1, by omega, by omega, hA0⟩
    case round =>
      obtain ⟨q, m, rfl, hq0, hqf, hqm, v, T, hT, hZ, hr, hs, hl, hk⟩ := hrel
      by_cases hq : 0 < q
      · have hX := hZ.cell 0
        have hXf := hZ.free 0
        have hs1 := (limits_len (check_limits hs)).1
        have hbx : base ≤ wr.heap.size := Nat.le_trans hbs hk.size
        have hl2 : T.length ≤ 1000 := by omega
        go_wp2_with fail
        refine (grow_Step B b base v T _ hT hr hs1 hl2 hbx).mono ?_
        rintro e w2 ⟨v2, T2, rfl, hr2, hst, hT2, hk2⟩
        obtain ⟨a2, c2, rfl⟩ := hr2.slice
        have hZ2 := hZ.keeps hk2 hZ1b
        have y0 := hZ2.cell 0
        have yf := hZ2.free 0
        have hlen2 : checkT T2 = 0 ∧ (T2.length : Int) ≤ m + 1 := by
          rcases hst with rfl | h2
          · exact ⟨hs, by omega⟩
          · obtain ⟨sq, nq, hq, eq⟩ := h2 rfl
            obtain ⟨h3, h4⟩ := add_valid hq
            rw [← eq] at h3 h4
            exact ⟨h3, by omega⟩
        have k1 : Keeps (· = Z) w2 (w2.setCell ⟨Z, 0, none⟩ (.slice a2 T2.length c2)) := (Keeps.refl (· = Z) w2).setCell (p := ⟨Z, 0, none⟩) (Or.inr rfl) _
        have hfin : TreA B b base Z (m + 1) w1 (w2.setCell ⟨Z, 0, none⟩ (.slice a2 T2.length c2)) :=
          ⟨_, T2, hT2.keeps k1 (fun i e => by subst e; exact ⟨hZB, hZ1b⟩), hZ2.set 0 _, hr2.set hZ2 (by decide) (by decide) 0 _, hlen2.1, hlen2.2, (hk.trans (hk2.mono (fun i _ e => show i = b ∨ i = Z from Or.inl e)) (fun _ _ e => e)).trans (k1.mono (fun i _ e => show i = b ∨ i = Z from Or.inr e)) (fun _ _ e => e)⟩
        have HF := Lib.hid hfin
        clear hfin hlen2 hst
        go_wp2_with fail
        go_roundg (q - 1).toNat
        case measure => omega
        case rel => exact ⟨q - 1, m + 1, rfl, by omega, by omega, by omega, HF.out⟩
      · have hq0 : q = 0 := by omega
        subst hq0
        have hfin : TreA B b base Z (n + 1) w1 wr := ⟨v, T, hT, hZ, hr, hs, by omega, hk⟩
        have HF := Lib.hid hfin
        clear hfin
        go_wp2_with fail
        go_meet
        case rel => exact HF.out
  case rest =>
    obtain ⟨v, T, hT, hZ, hr, hs, hl, hk⟩ := hcut
    have hX := hZ.cell 0
    have hXf := hZ.free 0
    have hw2 : IntKind.i64.wrap (2 * n) = 2 * n := IntWalk.i64_in _ (by omega)
    have hw3 : IntKind.i64.wrap (2 * n + 1) = 2 * n + 1 := IntWalk.i64_in _ (by omega)
    go_wp2_with fail
    refine (mk_N B b (2 * n + 1) _ (by exact hT) (by omega) (by omega)).mono ?_
    rintro e w3 ⟨r2, rfl, hr21, hr22, ht3, k3⟩
    have hA3 : TreA B b base Z (n + 1) w1 w3 := ⟨v, T, ht3, hZ.keeps k3 hZ1b, hr.tape hT k3, hs, hl, hk.trans k3 (fun i _ e => Or.inl e)⟩
    clear hT hZ hr hs hl hk hX hXf k3 ht3
    go_wp2_with fail
    go_loopg [7] (r2.toNat) (fun f x wr => ∃ q : Int, x = .int .i64 q ∧ 0 ≤ q ∧ q.toNat ≤ f ∧ q ≤ r2 ∧ TreA B b base Z (n + 1) w1 wr)
    case atStart => exact ⟨r2, rfl, hr21, by omega, by omega, hA3⟩
    case round =>
      obtain ⟨q, rfl, hq0, hqf, hqr, v, T, hT, hZ, hr, hs, hl, hk⟩ := hrel
      have hX := hZ.cell 0
      have hXf := hZ.free 0
      by_cases hq : 0 < q
      · have hl2 : T.length ≤ 1000 := by omega
        have hs1 := (limits_len (check_limits hs)).1
        have hbx : base ≤ wr.heap.size := Nat.le_trans hbs hk.size
        have htb := hT.lt
        have hzl := hZ.lt
        have hBr : B ≤ wr.heap.size := by omega
        have HS := Lib.hid hs
        have HK := Lib.hid hk
        have hS0 : GsS B b base Z v T wr wr.drew := ⟨hT.keeps ((Keeps.refl (fun _ => False) _).drew) (fun _ e => e.elim), hr, hZ, (Keeps.refl _ _).drew⟩
        clear hT hr hs hk hX hXf
        go_wp2_with fail
        refine wp_region_any (by kernel_rfl) ?_
        refine wpAny_ops (ops' := grtOps 9) (by kernel_rfl) ?_
        refine grt_region9 B b base Z v T wr _ _ rfl hzl htb hBr hbx hZ1b hs1 hl2 rfl rfl (by exact hS0) ?_
        intro c w2 sv er T2 N hsb hS2 e8 hN e9 hr2 hst hNq
        obtain ⟨y8, y9, y33, y34, y35, y36, y37, y38, y39, y40, y41, y42, y43, y44, hc⟩ := hsb.ex [8, 9, 33, 34, 35, 36, 37, 38, 39, 40, 41, 42, 43, 44] (by kernel_rfl)
        subst hc
        simp only [List.setIfInBounds_toArray, List.set_cons_zero, List.set_cons_succ] at e8 e9 ⊢
        have e8' : y8 = .pointer (some ⟨N, 0, none⟩) := e8
        have e9' : y9 = .int .i64 er := e9
        subst e8'
        subst e9'
        obtain ⟨sa, sc, rfl⟩ := hr2.slice
        have hKw := HK.out.trans hS2.2.2.2 (fun i _ e => show i = b ∨ i = Z from Or.inl e)
        by_cases he : er = 0
        · subst he
          obtain ⟨s, nm, va, hq2, hT2⟩ := hst rfl
          obtain ⟨hc2, hl3⟩ := set_valid hq2
          rw [← hT2] at hc2 hl3
          have hZ2 := hS2.2.2.1
          have kz : Keeps (· = Z) w2 (w2.setCell ⟨Z, 0, none⟩ (.slice sa T2.length sc)) := (Keeps.refl (· = Z) w2).setCell (p := ⟨Z, 0, none⟩) (Or.inr rfl) _
          have HF := Lib.hid (show TreA B b base Z (n + 1) w1 (w2.setCell ⟨Z, 0, none⟩ (.slice sa T2.length sc)) from
            ⟨_, T2, hS2.1.keeps kz (fun i e => by subst e; exact ⟨hZB, hZ1b⟩), hZ2.set 0 _, hr2.set hZ2 (by decide) (by decide) 0 _, hc2, by omega, hKw.trans kz (fun i _ e => Or.inr e)⟩)
          have n0 := hN.cell 0
          have z0 := hZ2.cell 0
          have z1 := hZ2.free 0
          clear hS2 hZ2 hr2 hst hc2 hT2 hq2 hN hsb e8 e9 HS HK hKw kz hS0 hl3
          go_wp2_with fail
          go_roundg (q - 1).toNat
          case measure => omega
          case rel => exact ⟨q - 1, rfl, by omega, by omega, by omega, HF.out⟩
        · have he' : (er == 0) = false := by simpa using he
          have HF := Lib.hid (show TreA B b base Z (n + 1) w1 w2 from ⟨v, T, hS2.1, hS2.2.2.1, hS2.2.1, HS.out, hl, hKw⟩)
          clear hS2 hr2 hst hN hsb e8 e9 HS HK hKw hS0 he
          go_wp2_with fail
          go_roundg (q - 1).toNat
          case measure => omega
          case rel => exact ⟨q - 1, rfl, by omega, by omega, by omega, HF.out⟩
      · obtain ⟨qa, qc, rfl⟩ := hr.slice
        have hbZ : base ≠ Z := by omega
        have hbb : base ≠ b := by omega
        have hR1 : Holds w1 base #[.slice none 0 0] 27 := (hH0.alloc (.cells #[.slice (some ⟨base + 1, 0, none⟩) 1 1] 27)).keeps k1 hbb
        have hR := hR1.keeps hk (by omega)
        have hY := hR.cell 0
        have hYf := hR.free 0
        have kz : Keeps (· = base) wr (wr.setCell ⟨base, 0, none⟩ (.slice qa T.length qc)) := (Keeps.refl (· = base) wr).setCell (p := ⟨base, 0, none⟩) (Or.inr rfl) _
        have q0 := (hR.set 0 (.slice qa T.length qc)).cell 0
        have HF := Lib.hid (show TreeRow (wr.setCell ⟨base, 0, none⟩ (.slice qa T.length qc)) base (.slice qa T.length qc) T ∧ checkT T = 0 ∧ (T.length : Int) ≤ n + 1 ∧ Tape B (wr.setCell ⟨base, 0, none⟩ (.slice qa T.length qc)) b ∧ Keeps (· = b) w (wr.setCell ⟨base, 0, none⟩ (.slice qa T.length qc)) from
          ⟨hr.set hR (by decide) (by decide) 0 _, hs, hl, hT.keeps kz (fun i e => by subst e; exact ⟨hBw, hbb⟩),
            hK1.trans ((hk.mono (fun i _ e => (show i = b ∨ i = Z ∨ i = base from by omega))).trans kz (fun i _ e => (show i = b ∨ i = Z ∨ i = base from by omega))) (fun i hi e => by omega)⟩)
        clear hT hr hs hk hR hR1 hZ kz
        go_wp2_with fail
        exact bodyPost_ret (v := .agg #[.slice qa T.length qc]) (by simp [results, Try.results25, go_sem, q0]) rfl ⟨_, rfl, _, HF.out⟩
end Go.Proofs.Ytjfkjnakmmkkiaa

namespace Go.Proofs.Ytjfkjnakmmkkiaa
open Go.RowKit

def kidsP (T : List NodeT) (node : Int) (k : Nat) : List Nat := (List.range k).filter fun i => decide (parOf T i = node)
def childT (T : List NodeT) (node : Int) : List Nat := if checkT T ≠ 0 ∨ node < 0 then [] else kidsP T node T.length
theorem kidsP_yes {T : List NodeT} {node : Int} {k : Nat} (h : parOf T k = node) : kidsP T node (k + 1) = kidsP T node k ++ [k] := by
  unfold kidsP; rw [List.range_succ, List.filter_append]; simp [h]
theorem kidsP_no {T : List NodeT} {node : Int} {k : Nat} (h : ¬ parOf T k = node) : kidsP T node (k + 1) = kidsP T node k := by
  unfold kidsP; rw [List.range_succ, List.filter_append]; simp [h]
theorem kidsP_len (T : List NodeT) (node : Int) (k : Nat) : (kidsP T node k).length ≤ k := by
  unfold kidsP; exact Nat.le_trans (List.length_filter_le _ _) (by simp)

set_option maxRecDepth 100000 in
set_option maxHeartbeats 2000000 in
theorem tree_Children (R : Nat → Prop) (v : Value) (T : List NodeT) (node : Int) (w : World) (hT : NodesIn R w v T) :
    Calls Try.prog 26 #[.agg #[v], .int .i64 node] w fun e w' => ∃ u, e = .returned u ∧ w'.ownsRow w.heap.size 3 1 u (childT T node).length (natCells (childT T node)) ∧ Below w.heap.size w w' := by
  obtain ⟨a, cap, rfl, hc1, hc2⟩ := hT.shape
  have HT := Lib.hid hT; clear hT
  have hck := fun wx hx => tree_Check R (.slice a T.length cap) T wx hx
  have hE := Lib.hid (show childT T node = if checkT T ≠ 0 ∨ node < 0 then [] else kidsP T node T.length from rfl)
  have hb0 : Below w.heap.size w (w.alloc (.cells #[.slice a T.length cap] 27)) := (Below.refl _ _).alloc (Nat.le_refl _) _
  have hB0 := Holds.new w #[.slice a T.length cap] 27
  by_cases hz : checkT T = 0
  · have hl2 := (limits_len (check_limits hz)).2
    by_cases hr : node < 0
    · have hX := Lib.hid (show childT T node = [] from by rw [hE.out, if_pos (.inr hr)])
      rw [hz] at hck
      have HCK := Lib.hid hck
      clear hck hz
      go_enter Try.func26, Try.ntmps26
      go_wp2_with fail
      refine (HCK.out _ (by exact HT.out.new hb0)).mono ?_
      rintro e w1 ⟨rfl, hb1⟩
      go_wp2_with fail
      go_ret
      exact ⟨_, rfl, by rw [hX.out]; exact World.ownsRow_nil _ _ _ _, hb0.trans (hb1.mono (by simp))⟩
    · have hX := Lib.hid (show childT T node = kidsP T node T.length from by rw [hE.out, if_neg (by rintro (h | h); exact h hz; omega)])
      rw [hz] at hck
      have HCK := Lib.hid hck
      have hr' : 0 ≤ node := by omega
      clear hck hz hE hr
      go_enter Try.func26, Try.ntmps26
      go_wp2_with fail
      refine (HCK.out _ (by exact HT.out.new hb0)).mono ?_
      rintro e w1 ⟨rfl, hb1⟩
      have hB1 := hB0.keeps (Keeps.of_fresh hb1 (fun _ => False)) (fun e => e)
      have bx := hB1.cell 0
      have bl := hB1.lt
      have hb2 := hb0.trans (hb1.mono (by simp))
      have hlw := hb2.size
      have HT1 := Lib.hid (HT.out.new hb2)
      go_wp2_with fail
      go_loopg [5, 18] T.length (fun f x y wr => ∃ k : Nat, y = .int .i64 k ∧ k ≤ T.length ∧ T.length ≤ k + f ∧ wr.ownsRow w.heap.size 3 1 x (kidsP T node k).length (natCells (kidsP T node k)) ∧ Below w.heap.size w wr)
      case atStart => exact ⟨0, rfl, by omega, by omega, World.ownsRow_nil _ _ _ _, hb2⟩
      case round =>
        obtain ⟨k, rfl, hk1, hk2, hown, hb⟩ := hrel
        have hbs := hb.size
        by_cases hlt : k < T.length
        · have HTr := HT.out.new hb
          obtain ⟨g, o, pa, pc, rfl, hg, q0, q1, q2, hP, hpc, hpc2, hns, hp0, hp1⟩ := HTr.at k hlt
          have hkl := kidsP_len T node k
          obtain ⟨va, vc, rfl⟩ := row_slice hown
          have hcut : (k : Int) < (T.length : Int) := by omega
          by_cases hn : parOf T k = node
          · have hst := Lib.hid (kidsP_yes hn)
            rw [parOf_at hlt] at hn
            clear hP
            generalize T[k] = nd at *
            obtain ⟨i0, hi, hz0, hz1, hz2⟩ := info_parts infoInt
            have hb3 : Below wr.heap.size wr ((wr.alloc (.cells #[.int .i64 node, .string nd.name, .slice pa nd.props.length pc] 42)).alloc (.cells #[.int .i64 k] 3)) := ((Below.refl _ _).alloc (Nat.le_refl _) _).alloc (by simp) _
            have hown4 := Lib.hid (row_new hown hb3)
            have hb4 := Lib.hid (hb.trans (hb3.mono hbs))
            clear hown hb3
            go_wp2_with (at_builtin; refine wpList_append_own _ rfl _ _ 22 rfl w.heap.size 3 i0 (.int .i64 0) 1 8 Try.underlying22 hi hz0 hz1 hz2 rfl (by decide) _ (kidsP T node k).length (natCells (kidsP T node k)) rfl (by exact hown4.out) ⟨wr.heap.size + 1, 0, none⟩ 1 1 [.int .i64 k] rfl rfl ?c1 ?c2 ?c3 ?c4 ?c5 ?_)
            case c1 => exact new_cells _ _ _ (wr.heap.size + 1) (by simp) _ rfl
            case c2 => intro u hu; simp at hu; rcases hu with rfl; rfl
            case c3 => unfold maxLen; omega
            case c4 => omega
            case c5 => simp; omega
            intro v' w7 hown' hgrow _
            obtain ⟨ra', rc', rfl⟩ := row_slice hown'
            have hb7 := hb4.out.grown hgrow (by simp; omega) (fun i e => (hown4.out.lt i e).1)
            have HF := Lib.hid (show w7.ownsRow w.heap.size 3 1 (.slice ra' ((kidsP T node k).length + 1) rc') (kidsP T node (k + 1)).length (natCells (kidsP T node (k + 1))) from by
              rw [hst.out, List.length_append, List.length_singleton]; unfold natCells; rw [List.map_append]; exact hown')
            clear hown' hgrow hown4 hb4
            go_wp2_with fail
            go_roundg (gk - 1)
            case measure => omega
            case rel => exact ⟨k + 1, by go_num, by omega, by omega, HF.out, hb7⟩
          · have hst := Lib.hid (kidsP_no hn)
            rw [parOf_at hlt] at hn
            clear hP
            generalize T[k] = nd at *
            have HOW := Lib.hid hown
            clear hown
            go_wp2_with fail
            go_roundg (gk - 1)
            case measure => omega
            case rel => exact ⟨k + 1, by go_num, by omega, by omega, by rw [hst.out]; exact row_new HOW.out ((Below.refl _ _).alloc (Nat.le_refl _) _), hb.alloc hbs _⟩
        · obtain rfl : k = T.length := by omega
          obtain ⟨va, vc, rfl⟩ := row_slice hown
          have HF := Lib.hid hown
          clear hown
          go_wp2_with fail
          go_ret
          exact ⟨_, rfl, by rw [hX.out]; exact HF.out, hb⟩
  · have hz' : (checkT T != 0) = true := by simpa using hz
    have hX := Lib.hid (show childT T node = [] from by rw [hE.out, if_pos (.inl hz)])
    have HCK := Lib.hid hck
    clear hck hz hE
    generalize checkT T = c at *
    go_enter Try.func26, Try.ntmps26
    go_wp2_with fail
    refine (HCK.out _ (by exact HT.out.new hb0)).mono ?_
    rintro e w1 ⟨rfl, hb1⟩
    go_wp2_with fail
    go_ret
    exact ⟨_, rfl, by rw [hX.out]; exact World.ownsRow_nil _ _ _ _, hb0.trans (hb1.mono (by simp))⟩
end Go.Proofs.Ytjfkjnakmmkkiaa

open Go
namespace Go.Proofs.Ytjfkjnakmmkkiaa

theorem valid_asc {T : List NodeT} (hc : checkT T = 0) (h0 : 0 < T.length) : Shape T ∧ Asc T ∧ Dis T := by
  obtain ⟨h1, h2, h3, h4, h5⟩ := check_parts hc
  have hp := par_of_named h2
  have hr := named_root h2 h0
  exact ⟨⟨h0, hp, hr⟩, ((walked_iff hp hr).1 h3).2, dis_check hc⟩
theorem kid_names {T : List NodeT} (hS : Shape T) (hA : Asc T) (hD : Dis T) {i a b : Nat} (ha : a < T.length) (hb : b < T.length) (a0 : 0 < a) (hab : a < b) (pa : parOf T a = (i : Int)) (pb : parOf T b = (i : Int)) : ltS (nameOf T a) (nameOf T b) = true := by
  have h := asc_all hA b a hab hb
  unfold ltI at h
  rw [pc_succ hS.2.1 a0 ha, pc_succ hS.2.1 (by omega) hb, kid_par pa, kid_par pb] at h
  rcases ltP_last _ h with h | ⟨h, _⟩
  · exact h
  · have := hD a b a0 ha (by omega) hb (by rw [pa, pb]) h
    omega
theorem kid_first {T : List NodeT} (hS : Shape T) (hA : Asc T) {i c : Nat} (hc : c < T.length) (c0 : 0 < c) (pc' : parOf T c = (i : Int)) : parOf T (i + 1) = (i : Int) := by
  have hp := hS.2.1
  have hcl := parN_lt hp c0 hc
  rw [kid_par pc'] at hcl
  by_cases e : c = i + 1
  · rw [← e]; exact pc'
  · have h1 := asc_all hA (i + 1) i (by omega) (by omega)
    have h2 := asc_all hA c (i + 1) (by omega) hc
    unfold ltI at h1 h2
    rw [pc_succ hp c0 hc, kid_par pc'] at h2
    obtain ⟨y, q, e2, _⟩ := ltP_between _ _ _ h1 h2
    have hu : Und T i (i + 1) := ⟨y :: q, e2.symm⟩
    have hil : i + 1 < T.length := by omega
    have hpi := parN_lt hp (show 0 < i + 1 by omega) hil
    rcases (und_step hp (show i < T.length by omega) (by omega) hil).1 hu with h | h
    · omega
    · have := und_le hp (show i < T.length by omega) _ _ (Nat.le_refl _) (show parN T (i + 1) < T.length by omega) h
      omega
theorem kidsP_mem {T : List NodeT} {node : Int} {k c : Nat} : c ∈ kidsP T node k ↔ c < k ∧ parOf T c = node := by
  unfold kidsP; simp
theorem kidsP_asc (T : List NodeT) (node : Int) (k : Nat) : (kidsP T node k).Pairwise (· < ·) := by
  unfold kidsP; exact List.Pairwise.filter _ List.pairwise_lt_range
theorem kidsP_head {T : List NodeT} (hS : Shape T) (hA : Asc T) {i : Nat} (h : 0 < (kidsP T i T.length).length) : (kidsP T i T.length)[0] = i + 1 := by
  have hpos : ∀ c, parOf T c = (i : Int) → 0 < c := by
    intro c e
    rcases Nat.eq_zero_or_pos c with h | h
    · subst h; rw [hS.2.2] at e; omega
    · exact h
  have hm := kidsP_mem.1 (List.getElem_mem h)
  have hf := kid_first hS hA hm.1 (hpos _ hm.2) hm.2
  have hlt := parN_lt hS.2.1 (hpos _ hm.2) hm.1
  rw [kid_par hm.2] at hlt
  have hin : i + 1 ∈ kidsP T i T.length := kidsP_mem.2 ⟨by omega, hf⟩
  obtain ⟨j, hj, e⟩ := List.getElem_of_mem hin
  by_cases j0 : j = 0
  · subst j0; exact e
  · have := (List.pairwise_iff_getElem.1 (kidsP_asc T i T.length)) 0 j h hj (by omega)
    omega
theorem kids_sum {T : List NodeT} : ∀ (k m : Nat), (∀ c, c < k → 0 < c → 0 ≤ parOf T c ∧ parOf T c < m) → (0 < k → parOf T 0 = -1) → (((List.range m).map fun (i : Nat) => (kidsP T (i : Int) k).length).sum) = k - 1 := by
  intro k m h h0
  induction k with
  | zero =>
    have : ∀ l : List Nat, (l.map fun (i : Nat) => (kidsP T (i : Int) 0).length).sum = 0 := by
      intro l; induction l with
      | nil => rfl
      | cons a l ih => rw [List.map_cons, List.sum_cons, ih]; rfl
    rw [this]
  | succ k ih =>
    have ih' := ih (fun c hc => h c (by omega)) (fun _ => h0 (by omega))
    have hstep : ∀ l : List Nat, l.Nodup → (l.map fun (i : Nat) => (kidsP T (i : Int) (k + 1)).length).sum = (l.map fun (i : Nat) => (kidsP T (i : Int) k).length).sum + (if (parOf T k) ∈ l.map (fun i : Nat => (i : Int)) then 1 else 0) := by
      intro l
      induction l with
      | nil => intro _; rfl
      | cons a l ihl =>
        intro hn
        rw [List.nodup_cons] at hn
        rw [List.map_cons, List.sum_cons, List.map_cons, List.sum_cons, ihl hn.2]
        by_cases e : parOf T k = (a : Int)
        · have : ¬ ((a : Int) ∈ l.map (fun i : Nat => (i : Int))) := by
            intro hm; obtain ⟨x, hx, e2⟩ := List.mem_map.1 hm
            have : x = a := by omega
            subst this; exact hn.1 hx
          rw [kidsP_yes e, e, if_neg this, if_pos (by simp)]; simp; omega
        · rw [kidsP_no e]
          have : (parOf T k ∈ (a :: l).map (fun i : Nat => (i : Int))) ↔ parOf T k ∈ l.map (fun i : Nat => (i : Int)) := by simp [e]
          simp only [this]; omega
    rw [hstep _ List.nodup_range, ih']
    by_cases hk : k = 0
    · subst hk
      rw [h0 (by omega), if_neg (by simp)]
    · have := h k (by omega) (by omega)
      rw [if_pos (List.mem_map.2 ⟨(parOf T k).toNat, List.mem_range.2 (by omega), by omega⟩)]
      omega
end Go.Proofs.Ytjfkjnakmmkkiaa

namespace Go.Proofs.Ytjfkjnakmmkkiaa
open Go.RowKit

def sumK (T : List NodeT) (k : Nat) : Nat := ((List.range k).map fun (i : Nat) => (kidsP T (i : Int) T.length).length).sum
theorem sumK_succ (T : List NodeT) (k : Nat) : sumK T (k + 1) = sumK T k + (kidsP T (k : Int) T.length).length := by
  unfold sumK; rw [List.range_succ, List.map_append, List.sum_append]; simp
theorem sumK_all {T : List NodeT} (hS : Shape T) : sumK T T.length + 1 = T.length := by
  have h := kids_sum (T := T) T.length T.length (fun c hc c0 => by have := hS.2.1 c c0 hc; omega) (fun _ => hS.2.2)
  have h0 := hS.1
  unfold sumK; omega
theorem named_name {T : List NodeT} (h : namedT T = true) {k : Nat} (k0 : 0 < k) (hk : k < T.length) : nameT T[k].name.data.toList = true := by
  have := (named_at T 0 h k hk).1
  rw [Nat.zero_add] at this
  unfold headB at this
  rw [if_neg (by omega)] at this; simp at this; exact this.2
/-- What the law asks of the children of a node. -/
structure KidsOk (T : List NodeT) (k : Nat) (l : List Nat) : Prop where
  lt : ∀ j (h : j < l.length), l[j] < T.length
  par : ∀ j (h : j < l.length) (h2 : l[j] < T.length), T[l[j]].parent = (k : Int)
  name : ∀ j (h : j < l.length) (h2 : l[j] < T.length), nameT T[l[j]].name.data.toList = true
  asc : ∀ j (_ : 0 < j) (h : j < l.length), l[j - 1] < l[j]
  names : ∀ j (_ : 0 < j) (h : j < l.length) (h1 : l[j - 1] < T.length) (h2 : l[j] < T.length), Op.bytesLess T[l[j - 1]].name.toList T[l[j]].name.toList = true
  head : ∀ (h : 0 < l.length), l[0] = k + 1
theorem kids_ok {T : List NodeT} (hc : checkT T = 0) (h0 : 0 < T.length) (k : Nat) : KidsOk T k (kidsP T (k : Int) T.length) := by
  obtain ⟨hS, hA, hD⟩ := valid_asc hc h0
  have hm := fun j (h : j < (kidsP T (k : Int) T.length).length) => kidsP_mem.1 (List.getElem_mem h)
  have hpos : ∀ c, parOf T c = (k : Int) → 0 < c := by
    intro c e
    rcases Nat.eq_zero_or_pos c with h | h
    · subst h; rw [hS.2.2] at e; omega
    · exact h
  refine ⟨fun j h => (hm j h).1, fun j h h2 => by rw [← parOf_at h2]; exact (hm j h).2, fun j h h2 => ?_, fun j hj h => ?_, fun j hj h h1 h2 => ?_, fun h => kidsP_head hS hA h⟩
  · exact named_name (check_parts hc).2.1 (hpos _ (hm j h).2) h2
  · exact (List.pairwise_iff_getElem.1 (kidsP_asc T k T.length)) (j - 1) j (by omega) h (by omega)
  · have := (List.pairwise_iff_getElem.1 (kidsP_asc T k T.length)) (j - 1) j (by omega) h (by omega)
    have h3 := kid_names hS hA hD h1 h2 (hpos _ (hm (j - 1) (by omega)).2) this (hm (j - 1) (by omega)).2 (hm j h).2
    rw [nameOf_at h1, nameOf_at h2] at h3
    exact h3
def WalkOut (T : List NodeT) (base : Nat) (v : Value) (Z : Nat) (W : World) (f : Nat) (x y : Value) (wr : World) : Prop :=
  ∃ k : Nat, x = .int .i64 ((sumK T k + 1 : Nat) : Int) ∧ y = .int .i64 k ∧ sumK T k ≤ 13 * k ∧ k ≤ T.length ∧ T.length ≤ k + f ∧ NodesIn (fun g => base ≤ g) wr v T ∧ Holds wr Z #[v] 27 ∧ Below W.heap.size W wr
def WalkIn (T : List NodeT) (base : Nat) (v : Value) (Z : Nat) (W : World) (l : List Nat) (u : Value) (B : Nat) (f : Nat) (x : Value) (wr : World) : Prop :=
  ∃ j : Nat, x = .int .i64 j ∧ j ≤ l.length ∧ l.length ≤ j + f ∧ NodesIn (fun g => base ≤ g) wr v T ∧ Holds wr Z #[v] 27 ∧ wr.ownsRow B 3 1 u l.length (natCells l) ∧ Below W.heap.size W wr

set_option maxRecDepth 100000 in
set_option maxHeartbeats 4000000 in
theorem treeWalk_walk (a : Option Addr) (len cap : Nat) (w : World) (hi : IntsIn w a len) (hlc : len ≤ cap) (hcap : cap ≤ maxLen) (hnil : a = none → len = 0 ∧ cap = 0) :
    Calls Try.prog 8 #[.slice a len cap] w fun e w' => e = .returned (.bool true) ∧ Below w.heap.size w w' := by
  go_enter Try.func8, Try.ntmps8
  go_wp2_with fail
  refine (mk_New a len cap _ hi hlc hcap hnil).mono ?_
  rintro e w1 ⟨tb, rfl, hT1, hb1⟩
  clear hi hnil
  have hB := hT1.1
  have htl := hT1.lt
  go_wp2_with fail
  refine (grow_Tree w.heap.size tb 12 _ (by exact hT1) (by omega) (by omega)).mono ?_
  rintro e w2 ⟨v, T, rfl, hR, hs, hl, hT2, hk2⟩
  obtain ⟨va, vc, rfl⟩ := hR.slice
  have hb2 : Below w.heap.size w w2 := hb1.trans (hk2.below (by omega) (fun i hi e => by omega))
  have hs2 := hb2.size
  have hR2 := hR.new ((Below.refl _ _).alloc (Nat.le_refl _) (.cells #[.slice va T.length vc] 27))
  have hN := hR2.in
  have hb3 := hb2.alloc hs2 (.cells #[.slice va T.length vc] 27)
  have hZ := Holds.new w2 #[.slice va T.length vc] 27
  have h0 := (limits_len (check_limits hs)).1
  have hT13 : T.length ≤ 13 := by omega
  have hSh := (valid_asc hs h0).1
  have hall := sumK_all hSh
  have HC := Lib.hid hs
  clear hR hR2 hb2 hb1 hk2 hT1 hT2 hl hs
  generalize w1.heap.size = base at *
  go_wp2_with fail
  generalize w2.heap.size = Z at *
  go_loopg [5, 17] T.length (fun f x y wr => WalkOut T base (.slice va T.length vc) Z w f x y wr)
  case atStart => exact ⟨0, rfl, rfl, by simp [sumK], by omega, by omega, hN, hZ, hb3⟩
  case round =>
    clear hN hZ hb3
    obtain ⟨k, rfl, rfl, hs13, hk1, hk2, hNr, hZr, hbr⟩ := hrel
    have hX := hZr.cell 0
    by_cases hlt : k < T.length
    · have hlt' : (k : Int) < T.length := by omega
      have hch : childT T k = kidsP T k T.length := by unfold childT; rw [if_neg (by rintro (h | h); exact h HC.out; omega)]
      have hok := kids_ok HC.out h0 k
      have hkl := kidsP_len T k T.length
      have hsucc := sumK_succ T k
      have HNX := Lib.hid hNr
      go_wp2_with fail
      refine (tree_Children (fun g => base ≤ g) _ T k _ (by exact hNr)).mono ?_
      rintro e w4 ⟨u, rfl, hown, hb6⟩
      rw [hch] at hown
      clear hch
      generalize kidsP T k T.length = l at *
      obtain ⟨ua, uc, rfl⟩ := row_slice hown
      have hN4 := hNr.new hb6
      have hZ4 := hZr.keeps (Keeps.of_fresh hb6 (fun _ => False)) (fun e => e)
      have hb7 := hbr.trans (hb6.mono hbr.size)
      have HOK := Lib.hid hok
      clear hNr hZr hbr hb6 hX hok HNX
      generalize wr.heap.size = BR at *
      obtain ⟨go, rfl⟩ : ∃ x : Nat, x = gk := ⟨_, rfl⟩
      obtain ⟨wo, rfl⟩ : ∃ x : World, x = wr := ⟨_, rfl⟩
      go_wp2_with fail
      go_loopg [25] l.length (fun f x wr => WalkIn T base (.slice va T.length vc) Z w l (.slice ua l.length uc) BR f x wr)
      case atStart => exact ⟨0, rfl, by omega, by omega, hN4, hZ4, hown, hb7⟩
      case round =>
        clear hN4 hZ4 hown hb7
        obtain ⟨j, rfl, hj1, hj2, hNr, hZr, hown, hbr⟩ := hrel
        have hX := hZr.cell 0
        by_cases hjl : j < l.length
        · have hjl' : (j : Int) < l.length := by omega
          have hcl := HOK.out.lt j hjl
          have hpar := HOK.out.par j hjl hcl
          have hnm := HOK.out.name j hjl hcl
          obtain ⟨gl, cl, eu, -, hgl⟩ := hown.form (by omega)
          simp only [Value.slice.injEq] at eu
          obtain ⟨rfl, -, rfl⟩ := eu
          have c0 : wr.cell? ⟨gl, j, none⟩ = some (.int .i64 ((l[j]'hjl : Nat) : Int)) := (hown.cellAt j (by omega)).trans (by simp [natCells, hjl])
          obtain ⟨g, o, pa, pc, hva, hg, q0, q1, q2, -, -, -, hns, -, -⟩ := hNr.at l[j] hcl
          subst hva
          have hcl' : ((l[j]'hjl : Nat) : Int) < (T.length : Int) := by omega
          have hc0 : ¬ ((l[j]'hjl : Nat) : Int) < 0 := by omega
          have HF := Lib.hid (show ∀ (n : Nat) (x : Int), x = (j : Int) + 1 → WalkIn T base (.slice (some ⟨g, o, none⟩) T.length vc) Z w l (.slice (some ⟨gl, 0, none⟩) l.length uc) BR (gk - 1) (.int .i64 x) (wr.drewN n) from
            fun n x hx => ⟨j + 1, by rw [hx]; rfl, by omega, by omega, hNr, hZr, hown, ⟨hbr.os, hbr.tape, hbr.output, hbr.size, hbr.block⟩⟩)
          by_cases hj0 : j = 0
          · subst hj0
            clear hNr hown
            generalize l[0] = c at *
            generalize T[c] = nd at *
            have hnf := Lib.hid (fun wx : World => ref_Name nd.name wx (by unfold maxLen; omega))
            rw [hnm] at hnf
            go_wp2_with fail
            go_quiet ((go_at_call 27; exact Calls.quiet_of_same ((hnf.out _).mono fun _ _ ⟨a, b⟩ => ⟨a, b.symm⟩)))
            go_wp2_with fail
            go_roundg (gk - 1)
            case measure => omega
            case rel => exact HF.out _ _ (by simp)
          · have hjp : 0 < j := by omega
            have hasc := HOK.out.asc j hjp hjl
            have hp1 : l[j - 1] < T.length := by omega
            have hnms := HOK.out.names j hjp hjl hp1 hcl
            have p0 : wr.cell? ⟨gl, j - 1, none⟩ = some (.int .i64 ((l[j - 1]'(by omega) : Nat) : Int)) := (hown.cellAt (j - 1) (by omega)).trans (by simp [natCells, show j - 1 < l.length by omega])
            obtain ⟨g', o', pa', pc', hva', -, r0, r1, r2, -⟩ := hNr.at l[j - 1] hp1
            injection hva' with hva'
            injection hva' with hg' ho'
            subst hg'
            subst ho'
            have hjw : IntKind.i64.wrap ((j : Int) - 1) = ((j - 1 : Nat) : Int) := by rw [IntKind.wrap_i64]; omega
            have hj1 : ((j - 1 : Nat) : Int) < (l.length : Int) := by omega
            have key : ∃ (c p : Nat) (nd pd : NodeT), wr.cell? ⟨gl, j, none⟩ = some (.int .i64 c) ∧ wr.cell? ⟨gl, j - 1, none⟩ = some (.int .i64 p) ∧ wr.cell? ⟨g, o + c * 3, none⟩ = some (.int .i64 nd.parent) ∧ wr.cell? ⟨g, o + c * 3 + 1, none⟩ = some (.string nd.name) ∧ wr.cell? ⟨g, o + p * 3 + 1, none⟩ = some (.string pd.name) ∧
                nd.parent = (k : Int) ∧ nameT nd.name.data.toList = true ∧ Op.bytesLess pd.name.toList nd.name.toList = true ∧ (p : Int) < c ∧ (c : Int) < T.length ∧ (p : Int) < T.length ∧ nd.name.size ≤ 9223372036854775807 :=
              ⟨_, _, _, _, c0, p0, q0, q1, r1, hpar, hnm, hnms, (by omega), (by omega), (by omega), hns⟩
            clear hNr hown c0 p0 q0 q1 q2 r0 r1 r2 hpar hnm hnms hasc hcl hp1 hns hcl' hc0
            obtain ⟨c, p, nd, pd, c0, p0, q0, q1, r1, hpar, hnm, hnms, hpc, hcl, hp1, hns⟩ := key
            have hge : decide ((c : Int) ≤ (p : Int)) = false := by simp; omega
            have hc0 : ¬ (c : Int) < 0 := by omega
            have hnf := Lib.hid (fun wx : World => ref_Name nd.name wx (by unfold maxLen; omega))
            rw [hnm] at hnf
            go_wp2_with fail
            go_quiet ((go_at_call 27; exact Calls.quiet_of_same ((hnf.out _).mono fun _ _ ⟨a, b⟩ => ⟨a, b.symm⟩)))
            go_wp2_with fail
            go_roundg (gk - 1)
            case measure => omega
            case rel => exact HF.out _ _ rfl
        · obtain rfl : j = l.length := by omega
          have hsn : sumK T (k + 1) ≤ 13 * (k + 1) := by omega
          have hHd := HOK.out.head
          have HF := Lib.hid (show ∀ (x y : Int), x = (sumK T k : Int) + l.length + 1 → y = (k : Int) + 1 → WalkOut T base (.slice va T.length vc) Z w (go - 1) (.int .i64 x) (.int .i64 y) wr from
            fun x y hx hy => ⟨k + 1, by rw [hx, hsucc]; congr 1, by rw [hy]; rfl, hsn, by omega, by omega, hNr, hZr, hbr⟩)
          by_cases hl0 : l.length = 0
          · rw [hl0] at hsucc
            clear hown hNr
            go_wp2_with fail
            go_roundg (go - 1)
            case measure => omega
            case rel => exact HF.out _ _ (by rw [hl0]; omega) rfl
          · obtain ⟨gl, cl, eu, -, hgl⟩ := hown.form (by omega)
            simp only [Value.slice.injEq] at eu
            obtain ⟨rfl, -, rfl⟩ := eu
            have hpl : 0 < l.length := by omega
            have c0 : wr.cell? ⟨gl, 0, none⟩ = some (.int .i64 ((k + 1 : Nat) : Int)) := (hown.cellAt 0 (by omega)).trans (by simp [natCells, hpl, hHd hpl])
            have hkk : (((k + 1 : Nat) : Int) != (k : Int) + 1) = false := by simp
            clear hown hNr
            go_wp2_with fail
            go_roundg (go - 1)
            case measure => omega
            case rel => exact HF.out _ _ (by omega) rfl
    · obtain rfl : k = T.length := by omega
      have heq : (((sumK T T.length + 1 : Nat) : Int) == (T.length : Int)) = true := by rw [hall]; simp
      have haw := Lib.hid (fun wx => law03_awake wx)
      go_wp2_with fail
      refine (haw.out _).mono ?_
      rintro e w5 ⟨rfl, hb8⟩
      go_wp2_with fail
      go_ret
      exact ⟨rfl, hbr.trans (hb8.mono hbr.size)⟩
end Go.Proofs.Ytjfkjnakmmkkiaa
