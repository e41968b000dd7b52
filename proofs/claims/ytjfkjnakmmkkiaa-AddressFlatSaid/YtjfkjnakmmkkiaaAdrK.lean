/- The contract of Translate of address. -/
import Derived.Test.YtjfkjnakmmkkiaaAdrJ
namespace Go.Proofs.Ytjfkjnakmmkkiaa
open Go.RowKit

def RegOk (p : Int × Int) : Prop := 0 ≤ p.1 ∧ p.1 ≤ 4611686018427387903 ∧ 0 ≤ p.2 ∧ p.2 ≤ 4611686018427387903 ∧ p.1 + p.2 ≤ 4611686018427387903
theorem regF_ok : ∀ (rs : List (List Int)) (l : List (Int × Int)), (∀ r ∈ rs, r.length = 2 ∧ ∀ x ∈ r, 0 ≤ x ∧ x ≤ 4611686018427387903) → regF rs = some l → ∀ p ∈ l, RegOk p := by
  intro rs
  induction rs with
  | nil => intro l _ h; simp only [regF, Option.some.injEq] at h; subst h; intro p hp; simp at hp
  | cons r rs ih =>
    intro l hr h
    simp only [regF] at h
    split at h
    · rename_i hf
      cases e : regF rs with
      | none => rw [e] at h; simp at h
      | some l2 =>
        rw [e] at h
        simp only [Option.map_some, Option.some.injEq] at h
        subst h
        intro p hp
        rcases List.mem_cons.1 hp with rfl | hp
        · obtain ⟨hl, hx⟩ := hr r List.mem_cons_self
          match r, hl with
          | [x, y], _ =>
            have hx1 := hx x (by simp)
            have hx2 := hx y (by simp)
            simp only [fitsB, List.getD_cons_zero, List.getD_cons_succ, decide_eq_true_eq] at hf
            simp only [RegOk, List.getD_cons_zero, List.getD_cons_succ]
            omega
        · exact ih l2 (fun r hr' => hr r (List.mem_cons_of_mem _ hr')) e p hp
    · simp at h
theorem regionsT_ok (T : List NodeT) (k : Nat) : ∀ p ∈ (regionsT T k).1, RegOk p := by
  unfold regionsT
  split
  · intro p hp; simp at hp
  · simp only
    split
    · intro p hp; simp at hp
    · split
      · intro p hp; simp at hp
      · intro p hp
        have hs := (rowsT_spec (valueT T k nmReg).1 [(pairT T (parOf T k)).1, (pairT T (parOf T k)).2.1]).2
        cases e : regF (rowsT (valueT T k nmReg).1 [(pairT T (parOf T k)).1, (pairT T (parOf T k)).2.1]).1 with
        | none => rw [e] at hp; simp [regE] at hp
        | some l => rw [e] at hp; exact regF_ok _ l (fun r hr => by simpa using hs r hr) e p hp
theorem aCheck_ok {T : List NodeT} (h : (aCheckT T).2 = 0) : checkT T = 0 := by
  unfold aCheckT at h
  split at h
  · exact h
  · rename_i h2; simpa using h2
theorem pair_cells_at {w : World} {base : Nat} {T : TypeId} {v : Value} {l : List (Int × Int)} (h : w.ownsRow base T 2 v l.length (pairCells l)) (k : Nat) (hk : k < l.length) :
    ∃ g cap, v = .slice (some ⟨g, 0, none⟩) l.length cap ∧ l.length ≤ cap ∧ g < w.heap.size ∧ base ≤ g ∧ w.cell? ⟨g, k * 2, none⟩ = some (.int .i64 l[k].1) ∧ w.cell? ⟨g, k * 2 + 1, none⟩ = some (.int .i64 l[k].2) := by
  rcases h.2 with ⟨_, h0⟩ | ⟨g, cap, cur, rfl, hb, hh, hcap, hr⟩
  · omega
  · have key : ∀ (l : List (Int × Int)) (k : Nat) (hk : k < l.length) (j : Nat), j < 2 → (pairCells l)[k * 2 + j]? = [Value.int .i64 l[k].1, .int .i64 l[k].2][j]? := by
      intro l
      induction l with
      | nil => intro k hk; simp at hk
      | cons a l ih =>
        intro k hk j hj
        rw [show pairCells (a :: l) = [.int .i64 a.1, .int .i64 a.2] ++ pairCells l from by simp [pairCells]]
        cases k with
        | zero => rw [List.getElem?_append_left (by simp; omega)]; simp
        | succ k =>
          rw [List.getElem?_append_right (by simp; omega)]
          have := ih k (by simpa using hk) j hj
          rw [show (k + 1) * 2 + j - [Value.int .i64 a.1, .int .i64 a.2].length = k * 2 + j from by simp; omega]
          simpa using this
    have cc : ∀ j, j < 2 → ∀ u, [Value.int .i64 l[k].1, .int .i64 l[k].2][j]? = some u → w.cell? ⟨g, k * 2 + j, none⟩ = some u := by
      intro j hj u hu
      have hc := h.cells (g := g) rfl (k * 2 + j) u (by rw [key l k hk j hj]; exact hu)
      have hadd : (⟨g, 0, none⟩ : Addr).add (k * 2 + j) = ⟨g, k * 2 + j, none⟩ := by unfold Addr.add; split <;> simp_all
      rwa [hadd] at hc
    exact ⟨g, cap, rfl, hcap, lt_of_block hh, hb, cc 0 (by omega) _ rfl, cc 1 (by omega) _ rfl⟩

theorem new_held {w wc : World} {x y : Value} {t : TypeId} (h : Below (w.alloc (.cells #[x, y] t)).drew.heap.size (w.alloc (.cells #[x, y] t)).drew wc) :
    wc.cell? ⟨w.heap.size, 0, none⟩ = some x ∧ wc.cell? ⟨w.heap.size, 1, none⟩ = some y ∧ wc.frozen? ⟨w.heap.size, 0, none⟩ = false ∧ wc.frozen? ⟨w.heap.size, 1, none⟩ = false ∧ w.heap.size < wc.heap.size := by
  have hzn := (Holds.new w #[x, y] t).drew.keeps (Keeps.of_fresh h (fun _ => False)) (fun e => e)
  exact ⟨hzn.cell 0, hzn.cell 1, hzn.free 0, hzn.free 1, hzn.lt⟩

def atRegion (T : List NodeT) (k : Nat) (p : Int × Int) : (Int × Int) × Int := if (translateT T k p.1 p.2).2 = true then ((translateT T k p.1 p.2).1, 0) else ((0, 0), 27)
def aTransT (T : List NodeT) (node index : Int) : (Int × Int) × Int :=
  if (aCheckT T).2 ≠ 0 then ((0, 0), (aCheckT T).2) else if node < 0 ∨ T.length ≤ node then ((0, 0), 4) else
    if index < 0 ∨ (regionsT T node.toNat).1.length ≤ index then ((0, 0), 4) else atRegion T node.toNat ((regionsT T node.toNat).1.getD index.toNat (0, 0))
def ATransPost (T : List NodeT) (node index : Int) (w : World) (e : Ending) (w' : World) : Prop :=
  e = .returned (.tuple #[.agg #[.int .i64 (aTransT T node index).1.1, .int .i64 (aTransT T node index).1.2], .int .i64 (aTransT T node index).2]) ∧ Below w.heap.size w w'

set_option maxHeartbeats 4000000 in
theorem address_Translate (R : Nat → Prop) (v : Value) (T : List NodeT) (node index : Int) (w : World) (hT : NodesIn R w v T) :
    Calls Try.prog 16 #[.agg #[v], .int .i64 node, .int .i64 index] w (ATransPost T node index w) := by
  obtain ⟨a, cap, rfl, hc1, hc2⟩ := hT.shape
  have HT := Lib.hid hT; clear hT
  have hck := fun wx hx => address_Check R (.slice a T.length cap) T wx hx
  have hE := Lib.hid (show aTransT T node index = if (aCheckT T).2 ≠ 0 then ((0, 0), (aCheckT T).2) else if node < 0 ∨ T.length ≤ node then ((0, 0), 4) else
    if index < 0 ∨ (regionsT T node.toNat).1.length ≤ index then ((0, 0), 4) else atRegion T node.toNat ((regionsT T node.toNat).1.getD index.toNat (0, 0)) from rfl)
  have hok := Lib.hid (@aCheck_ok T)
  have hb0 : Below w.heap.size w ((w.alloc (.cells #[.slice a T.length cap] 27)).alloc (.cells #[.int .i64 0, .int .i64 0] 37)) := ((Below.refl w.heap.size w).alloc (Nat.le_refl _) _).alloc (by simp) _
  have hB0 := (Holds.new w #[.slice a T.length cap] 27).alloc (.cells #[.int .i64 0, .int .i64 0] 37)
  have hZ0 := Holds.new (w.alloc (.cells #[.slice a T.length cap] 27)) #[.int .i64 0, .int .i64 0] 37
  rw [show (w.alloc (.cells #[.slice a T.length cap] 27)).heap.size = w.heap.size + 1 from by simp] at hZ0
  generalize aCheckT T = C at hck hE hok
  obtain ⟨ci, c⟩ := C
  simp only at hck
  have HCK := Lib.hid hck; clear hck
  by_cases hc : c = 0
  · subst hc
    have hc0 := hok.out rfl
    clear hok
    by_cases hn : node < 0
    · have hF := Lib.hid (show aTransT T node index = ((0, 0), 4) from by rw [hE.out, if_neg (by simp), if_pos (.inl hn)])
      clear hE
      go_enter Try.func16, Try.ntmps16
      go_wp2_with fail
      refine (HCK.out _ (by exact HT.out.new hb0)).mono ?_
      rintro e w1 ⟨rfl, hb1⟩
      have hb2 := hb0.trans (hb1.mono (by simp; omega))
      have hB1 := hB0.keeps (Keeps.of_fresh hb1 (fun _ => False)) (fun e => e)
      have hZ1 := hZ0.keeps (Keeps.of_fresh hb1 (fun _ => False)) (fun e => e)
      have bx := hB1.cell 0
      have blt := hB1.lt
      have z0 := hZ1.cell 0
      have z1 := hZ1.cell 1
      have zf0 := hZ1.free 0
      have zf1 := hZ1.free 1
      have zlt := hZ1.lt
      go_wp2_with fail
      exact bodyPost_ret (v := .tuple #[.agg #[.int .i64 0, .int .i64 0], .int .i64 4]) (by simp [results, Try.results16, go_sem, z0, z1]) rfl ⟨by rw [hF.out], (hb2.setCell (by simp) _).setCell (by simp) _⟩
    · have hn' : 0 ≤ node := by omega
      by_cases hbig : (T.length : Int) ≤ node
      · have hF := Lib.hid (show aTransT T node index = ((0, 0), 4) from by rw [hE.out, if_neg (by simp), if_pos (.inr hbig)])
        clear hE
        go_enter Try.func16, Try.ntmps16
        go_wp2_with fail
        refine (HCK.out _ (by exact HT.out.new hb0)).mono ?_
        rintro e w1 ⟨rfl, hb1⟩
        have hb2 := hb0.trans (hb1.mono (by simp; omega))
        have hB1 := hB0.keeps (Keeps.of_fresh hb1 (fun _ => False)) (fun e => e)
        have hZ1 := hZ0.keeps (Keeps.of_fresh hb1 (fun _ => False)) (fun e => e)
        have bx := hB1.cell 0
        have blt := hB1.lt
        have z0 := hZ1.cell 0
        have z1 := hZ1.cell 1
        have zf0 := hZ1.free 0
        have zf1 := hZ1.free 1
        have zlt := hZ1.lt
        go_wp2_with fail
        exact bodyPost_ret (v := .tuple #[.agg #[.int .i64 0, .int .i64 0], .int .i64 4]) (by simp [results, Try.results16, go_sem, z0, z1]) rfl ⟨by rw [hF.out], (hb2.setCell (by simp) _).setCell (by simp) _⟩
      · obtain ⟨k, rfl⟩ := Int.eq_ofNat_of_zero_le hn'
        have hk : k < T.length := by omega
        have hE2 := Lib.hid (show aTransT T k index = if index < 0 ∨ (regionsT T k).1.length ≤ index then ((0, 0), 4) else atRegion T k ((regionsT T k).1.getD index.toNat (0, 0)) from by
          rw [hE.out, if_neg (by simp), if_neg (by rintro (h | h); exact hn h; exact hbig h), Int.toNat_natCast])
        have hbig' : (k : Int) < (T.length : Int) := by omega
        clear hE hn hbig
        have hrg := fun wx hx => address_regions R (.slice a T.length cap) T k wx hx hc0 hk
        have hRK := Lib.hid (regionsT_ok T k)
        unfold RegionsPost at hrg
        generalize regionsT T k = C at hrg hE2 hRK
        obtain ⟨l, er⟩ := C
        simp only at hrg
        have HRG := Lib.hid hrg; clear hrg
        by_cases hi : index < 0
        · have hF := Lib.hid (show aTransT T k index = ((0, 0), 4) from by rw [hE2.out, if_pos (.inl hi)])
          clear hE2
          go_enter Try.func16, Try.ntmps16
          go_wp2_with fail
          refine (HCK.out _ (by exact HT.out.new hb0)).mono ?_
          rintro e w1 ⟨rfl, hb1⟩
          have hb2 := hb0.trans (hb1.mono (by simp; omega))
          have hB1 := hB0.keeps (Keeps.of_fresh hb1 (fun _ => False)) (fun e => e)
          have hZ1 := hZ0.keeps (Keeps.of_fresh hb1 (fun _ => False)) (fun e => e)
          have bx := hB1.cell 0
          have blt := hB1.lt
          have z0 := hZ1.cell 0
          have z1 := hZ1.cell 1
          have zf0 := hZ1.free 0
          have zf1 := hZ1.free 1
          have zlt := hZ1.lt
          go_wp2_with fail
          refine (HRG.out _ (by exact HT.out.new hb2)).mono ?_
          rintro e w2 ⟨rv, rfl, hown, hb3⟩
          obtain ⟨ra, rc, rfl⟩ := owns_slice hown
          have hb4 := hb2.trans (hb3.mono hb2.size)
          have hB2 := hB1.keeps (Keeps.of_fresh hb3 (fun _ => False)) (fun e => e)
          have hZ2 := hZ1.keeps (Keeps.of_fresh hb3 (fun _ => False)) (fun e => e)
          clear bx blt z0 z1 zf0 zf1 zlt
          have bx := hB2.cell 0
          have blt := hB2.lt
          have z0 := hZ2.cell 0
          have z1 := hZ2.cell 1
          have zf0 := hZ2.free 0
          have zf1 := hZ2.free 1
          have zlt := hZ2.lt
          go_wp2_with fail
          exact bodyPost_ret (v := .tuple #[.agg #[.int .i64 0, .int .i64 0], .int .i64 4]) (by simp [results, Try.results16, go_sem, z0, z1]) rfl ⟨by rw [hF.out], (hb4.setCell (by simp) _).setCell (by simp) _⟩
        · have hi' : 0 ≤ index := by omega
          by_cases hbi : (l.length : Int) ≤ index
          · have hF := Lib.hid (show aTransT T k index = ((0, 0), 4) from by rw [hE2.out, if_pos (.inr hbi)])
            clear hE2
            go_enter Try.func16, Try.ntmps16
            go_wp2_with fail
            refine (HCK.out _ (by exact HT.out.new hb0)).mono ?_
            rintro e w1 ⟨rfl, hb1⟩
            have hb2 := hb0.trans (hb1.mono (by simp; omega))
            have hB1 := hB0.keeps (Keeps.of_fresh hb1 (fun _ => False)) (fun e => e)
            have hZ1 := hZ0.keeps (Keeps.of_fresh hb1 (fun _ => False)) (fun e => e)
            have bx := hB1.cell 0
            have blt := hB1.lt
            have z0 := hZ1.cell 0
            have z1 := hZ1.cell 1
            have zf0 := hZ1.free 0
            have zf1 := hZ1.free 1
            have zlt := hZ1.lt
            go_wp2_with fail
            refine (HRG.out _ (by exact HT.out.new hb2)).mono ?_
            rintro e w2 ⟨rv, rfl, hown, hb3⟩
            obtain ⟨ra, rc, rfl⟩ := owns_slice hown
            have hb4 := hb2.trans (hb3.mono hb2.size)
            have hB2 := hB1.keeps (Keeps.of_fresh hb3 (fun _ => False)) (fun e => e)
            have hZ2 := hZ1.keeps (Keeps.of_fresh hb3 (fun _ => False)) (fun e => e)
            clear bx blt z0 z1 zf0 zf1 zlt
            have bx := hB2.cell 0
            have blt := hB2.lt
            have z0 := hZ2.cell 0
            have z1 := hZ2.cell 1
            have zf0 := hZ2.free 0
            have zf1 := hZ2.free 1
            have zlt := hZ2.lt
            go_wp2_with fail
            exact bodyPost_ret (v := .tuple #[.agg #[.int .i64 0, .int .i64 0], .int .i64 4]) (by simp [results, Try.results16, go_sem, z0, z1]) rfl ⟨by rw [hF.out], (hb4.setCell (by simp) _).setCell (by simp) _⟩
          · obtain ⟨j, rfl⟩ := Int.eq_ofNat_of_zero_le hi'
            have hj : j < l.length := by omega
            have hE3 := Lib.hid (show aTransT T k j = atRegion T k l[j] from by
              rw [hE2.out, if_neg (by rintro (h | h); exact hi h; exact hbi h), Int.toNat_natCast]
              simp [List.getD, hj])
            have hbi' : (j : Int) < (l.length : Int) := by omega
            clear hE2 hi hbi
            go_enter Try.func16, Try.ntmps16
            go_wp2_with fail
            refine (HCK.out _ (by exact HT.out.new hb0)).mono ?_
            rintro e w1 ⟨rfl, hb1⟩
            have hb2 := hb0.trans (hb1.mono (by simp; omega))
            have hB1 := hB0.keeps (Keeps.of_fresh hb1 (fun _ => False)) (fun e => e)
            have hZ1 := hZ0.keeps (Keeps.of_fresh hb1 (fun _ => False)) (fun e => e)
            have bx := hB1.cell 0
            have blt := hB1.lt
            have z0 := hZ1.cell 0
            have z1 := hZ1.cell 1
            have zf0 := hZ1.free 0
            have zf1 := hZ1.free 1
            have zlt := hZ1.lt
            go_wp2_with fail
            refine (HRG.out _ (by exact HT.out.new hb2)).mono ?_
            rintro e w2 ⟨rv, rfl, hown, hb3⟩
            obtain ⟨ra, rc, rfl⟩ := owns_slice hown
            have hb4 := hb2.trans (hb3.mono hb2.size)
            have hB2 := hB1.keeps (Keeps.of_fresh hb3 (fun _ => False)) (fun e => e)
            have hZ2 := hZ1.keeps (Keeps.of_fresh hb3 (fun _ => False)) (fun e => e)
            clear bx blt z0 z1 zf0 zf1 zlt
            have bx := hB2.cell 0
            have blt := hB2.lt
            have z0 := hZ2.cell 0
            have z1 := hZ2.cell 1
            have zf0 := hZ2.free 0
            have zf1 := hZ2.free 1
            have zlt := hZ2.lt
            go_wp2_with fail
            have hrk := hRK.out l[j] (List.getElem_mem hj)
            obtain ⟨gl, cl, e1, q1, q2, q3, f0, f1⟩ := pair_cells_at hown j hj
            cases e1
            generalize l[j] = P at hrk f0 f1 hE3
            obtain ⟨b, sz⟩ := P
            obtain ⟨h1, h2, h3, h4, h5⟩ := hrk
            simp only at h1 h2 h3 h4 h5 f0 f1
            have htr := fun wx hx => address_translate R (.slice a T.length cap) T k b sz wx hx hc0 hk h1 h2 h3 h4
            unfold TransPost at htr
            have hE4 := Lib.hid (show aTransT T k j = if (translateT T k b sz).2 = true then ((translateT T k b sz).1, 0) else ((0, 0), 27) from by rw [hE3.out]; rfl)
            clear hE3
            generalize translateT T k b sz = D at htr hE4
            obtain ⟨⟨d0, d1⟩, ok⟩ := D
            simp only at htr
            have HTR := Lib.hid htr; clear htr
            have n1 := World.new_ne w2 _ bx
            have n2 := World.new_ne w2 _ f0
            go_region_held3 (fun wx => wx.cell? ⟨w.heap.size, 0, none⟩ = some (.slice a T.length cap) ∧ wx.cell? ⟨gl, j * 2, none⟩ = some (.int .i64 b) ∧ wx.cell? ⟨gl, j * 2 + 1, none⟩ = some (.int .i64 sz) ∧ Below w2.heap.size w2 wx)
              (first
              | exact ⟨by assumption, by assumption, by assumption, (Below.refl _ _).drew⟩
              | exact ⟨k0, k1, k2, kb⟩
              | exact ⟨by go_keep, by go_keep, by go_keep, kb.alloc hbs _⟩
              | exact ⟨by go_keep, by go_keep, by go_keep, (kb.setCell (Nat.le_refl _) _).setCell (Nat.le_refl _) _⟩
              | (refine ⟨by go_keep, by go_keep, by go_keep, ?_⟩; go_split_ands; rename_i hbw; first | exact hbw.alloc hbw.size _ | exact hbw.setCell (Nat.le_refl _) _ | exact hbw.setCell (by assumption) _)
              | go_keep)
              ((go_at_call 44; obtain ⟨s0, s1, s2, hbw⟩ := ‹World.cell? _ _ = _ ∧ _ ∧ _ ∧ Below _ _ _›; refine (HTR.out _ (by exact HT.out.new (hb4.trans (hbw.mono hb4.size)))).mono ?_; rintro e wc ⟨rfl, hbc⟩; have hbs := Nat.le_trans hbw.size hbc.size; have k0 := cell_new s0 (Nat.lt_of_lt_of_le blt hbw.size) hbc; have k1 := cell_new s1 (Nat.lt_of_lt_of_le q2 hbw.size) hbc; have k2 := cell_new s2 (Nat.lt_of_lt_of_le q2 hbw.size) hbc; have kb := hbw.trans (hbc.mono hbw.size); try (have hzn : wc.cell? ⟨w2.heap.size, 0, none⟩ = some (.int .i64 0) ∧ wc.cell? ⟨w2.heap.size, 1, none⟩ = some (.int .i64 0) ∧ wc.frozen? ⟨w2.heap.size, 0, none⟩ = false ∧ wc.frozen? ⟨w2.heap.size, 1, none⟩ = false ∧ w2.heap.size < wc.heap.size := new_held hbc; obtain ⟨g0, g1, gf0, gf1, glt⟩ := hzn)))
            all_goals
              rename_i hS
              obtain ⟨_, _, _, hbx⟩ := hS
              have hb5 := hb4.trans (hbx.mono hb4.size)
              have hZ3 := hZ2.keeps (Keeps.of_fresh hbx (fun _ => False)) (fun e => e)
              clear z0 z1 zf0 zf1 zlt
              have z0 := hZ3.cell 0
              have z1 := hZ3.cell 1
              have zf0 := hZ3.free 0
              have zf1 := hZ3.free 1
              have zlt := hZ3.lt
              cases ok with
              | true =>
                have hF := Lib.hid (show aTransT T k j = ((d0, d1), 0) from by rw [hE4.out]; rfl)
                clear hE4
                go_wp2_with fail
                exact bodyPost_ret (v := .tuple #[.agg #[.int .i64 d0, .int .i64 d1], .int .i64 0]) (by simp [results, Try.results16, go_sem, z0, z1]) rfl ⟨by rw [hF.out], (hb5.setCell (by simp) _).setCell (by simp) _⟩
              | false =>
                have hF := Lib.hid (show aTransT T k j = ((0, 0), 27) from by rw [hE4.out]; rfl)
                clear hE4
                go_wp2_with fail
                exact bodyPost_ret (v := .tuple #[.agg #[.int .i64 0, .int .i64 0], .int .i64 27]) (by simp [results, Try.results16, go_sem, z0, z1]) rfl ⟨by rw [hF.out], (hb5.setCell (by simp) _).setCell (by simp) _⟩
  · have hcb : (c != 0) = true := by simpa using hc
    have hE2 := Lib.hid (show aTransT T node index = ((0, 0), c) from by rw [hE.out, if_pos hc])
    clear hE hc hok
    go_enter Try.func16, Try.ntmps16
    go_wp2_with fail
    refine (HCK.out _ (by exact HT.out.new hb0)).mono ?_
    rintro e w1 ⟨rfl, hb1⟩
    have hb2 := hb0.trans (hb1.mono (by simp; omega))
    have hB1 := hB0.keeps (Keeps.of_fresh hb1 (fun _ => False)) (fun e => e)
    have hZ1 := hZ0.keeps (Keeps.of_fresh hb1 (fun _ => False)) (fun e => e)
    have bx := hB1.cell 0
    have blt := hB1.lt
    have z0 := hZ1.cell 0
    have z1 := hZ1.cell 1
    have zf0 := hZ1.free 0
    have zf1 := hZ1.free 1
    have zlt := hZ1.lt
    go_wp2_with fail
    exact bodyPost_ret (v := .tuple #[.agg #[.int .i64 0, .int .i64 0], .int .i64 c]) (by simp [results, Try.results16, go_sem, z0, z1]) rfl ⟨by rw [hE2.out], (hb2.setCell (by simp) _).setCell (by simp) _⟩
end Go.Proofs.Ytjfkjnakmmkkiaa
