/- Contracts of package walk: Tree. -/
import Derived.Test.YtjfkjnakmmkkiaaGreatZ16
import Derived.Deep.DeepCutAuto
import Derived.Deep.CutBlock
import Derived.Laws.EntriesVeiled

namespace Go.Proofs.YtjfkjnakmmkkiaaGreat
open Go.RowKit

theorem infoInts : (Tryz.prog.info? 22).map (fun i => (i.zero, i.size, i.bytes)) = some (some (.slice none 0 0), 1, 24) := by kernel_rfl
theorem make_rows (n : Nat) (hn : n ≤ 1000) (wx : World) : (Instr.makeSlice 138 (.int .i64 n) (.int .i64 n)).run Tryz.prog wx = .ok (.slice (some ⟨wx.heap.size, 0, none⟩) n n) (wx.alloc (.cells (Array.replicate n (.slice none 0 0)) 22)) := by
  obtain ⟨i0, hi, hz0, hz1, hz2⟩ := info_parts infoInts
  have := run_make (P := Tryz.prog) wx 138 22 i0 _ Tryz.underlying138 hi hz0 .i64 .i64 n n (by omega) (by omega) (by rw [hz2]; omega) (by omega)
  rw [this, hz1, show (Value.slice none 0 0).cells = #[.slice none 0 0] from rfl]
  simp [madeCells_one]
def kidsI (L : List NodeT) (p k : Nat) : List Nat := (List.range k).filter fun c => decide (0 < c) && decide (parOf L c = (p : Int))
theorem kidsI_zero (L : List NodeT) (p : Nat) : kidsI L p 0 = [] := rfl
theorem kidsI_yes {L : List NodeT} {p k : Nat} (h0 : 0 < k) (h : parOf L k = (p : Int)) : kidsI L p (k + 1) = kidsI L p k ++ [k] := by
  unfold kidsI; rw [List.range_succ, List.filter_append]; simp [h0, h]
theorem kidsI_no {L : List NodeT} {p k : Nat} (h : ¬ (0 < k ∧ parOf L k = (p : Int))) : kidsI L p (k + 1) = kidsI L p k := by
  unfold kidsI; rw [List.range_succ, List.filter_append]
  have : (decide (0 < k) && decide (parOf L k = (p : Int))) = false := by simpa using h
  simp [this]
theorem kidsI_len (L : List NodeT) (p k : Nat) : (kidsI L p k).length ≤ k := by
  have := List.length_filter_le (fun c => decide (0 < c) && decide (parOf L c = (p : Int))) (List.range k)
  unfold kidsI; simpa using this
theorem kidsI_ok (L : List NodeT) : KOk L (fun p => kidsI L p L.length) := by
  intro p hp
  have hk := kidsF_spec L p L.length
  refine perm_of_nodup (List.nodup_range.filter _) ?_ (fun v => ?_)
  · exact hk.2.imp (fun {a b} hab e => by subst e; exact ltC_irrefl _ hab)
  · rw [kids_mem]; simp [kidsI]
def CsD (cs : Array Value) (n : Nat) (w : World) : Prop := cs.size = n ∧ (∀ p q, p < n → q < n → p ≠ q → ∀ g, (cs.getD p undef).ownBlock = some g → (cs.getD q undef).ownBlock ≠ some g) ∧ ∀ p g, p < n → (cs.getD p undef).ownBlock = some g → g < w.heap.size
def TreL (L : List NodeT) (base : Nat) (lv : Value) (k : Nat) (W w : World) : Prop :=
  Holds w base #[lv] 23 ∧ NodesIn (fun g => g < base) w lv L ∧ Holds w (base + 1) #[.slice none 0 0] 25 ∧ Holds w (base + 1 + 1) #[.slice none 0 0] 22 ∧ Holds w (base + 1 + 1 + 1 + 1) #[.slice (some ⟨base + 1 + 1 + 1, 0, none⟩) L.length L.length] 138 ∧
    (∃ cs, Holds w (base + 1 + 1 + 1) cs 22 ∧ CsD cs L.length w ∧ KRows base cs L.length (fun p => kidsI L p k) w) ∧ Below base W w

set_option maxRecDepth 100000 in
set_option maxHeartbeats 4000000 in
theorem walk_TreeS (R : Nat → Prop) (v : Value) (L : List NodeT) (w : World) (hL : NodesIn R w v L) (hS : Shape L) (hD : Dis L) (hn : L.length ≤ 1000) (hpl : ∀ n ∈ L, n.props.length ≤ 1000) :
    Calls Tryz.prog 113 #[v] w fun e w' => ∃ tv gP l, e = .returned (.tuple #[.agg #[tv], .slice (some ⟨gP, 0, none⟩) L.length L.length]) ∧ TreeS w' w.heap.size tv (sortedT L) ∧ w.heap.size ≤ gP ∧ Holds w' gP (natArr l) 3 ∧ l.length = L.length ∧ (∀ q (h : q < (ordT L).length), l.getD (ordT L)[q] 0 = q) ∧ Below w.heap.size w w' := by
  obtain ⟨a, cap, rfl, hc1, hc2⟩ := hL.shape
  have HL := Lib.hid hL; clear hL
  have hmk := fun wx => make_rows L.length hn wx
  have hmi := fun wx => make_ints L.length hn wx
  go_enter Tryz.func113, Tryz.ntmps113
  go_upto_region 3 with fail
  have hb0 : Below w.heap.size w (((((w.alloc (.cells #[.slice a L.length cap] 23)).alloc (.cells #[.slice none 0 0] 25)).alloc (.cells #[.slice none 0 0] 22)).alloc (.cells (Array.replicate L.length (.slice none 0 0)) 22)).alloc (.cells #[.slice (some ⟨w.heap.size + 1 + 1 + 1, 0, none⟩) L.length L.length] 138)) :=
    (((((Below.refl _ _).alloc (Nat.le_refl _) _).alloc (by simp) _).alloc (by simp; omega) _).alloc (by simp; omega) _).alloc (by simp; omega) _
  have hT0 : TreL L w.heap.size (.slice a L.length cap) 0 w (((((w.alloc (.cells #[.slice a L.length cap] 23)).alloc (.cells #[.slice none 0 0] 25)).alloc (.cells #[.slice none 0 0] 22)).alloc (.cells (Array.replicate L.length (.slice none 0 0)) 22)).alloc (.cells #[.slice (some ⟨w.heap.size + 1 + 1 + 1, 0, none⟩) L.length L.length] 138)) := by
    have hg : ∀ p, p < L.length → (Array.replicate L.length (Value.slice none 0 0)).getD p undef = .slice none 0 0 := fun p hp => by simp [Array.getD_eq_getD_getElem?, hp]
    refine ⟨((((Holds.new w _ _).alloc _).alloc _).alloc _).alloc _, HL.out.bound.new hb0, (((Holds.newAt (w := w.alloc _) (by simp) _ _).alloc _).alloc _).alloc _, ((Holds.newAt (w := (w.alloc _).alloc _) (by simp) _ _).alloc _).alloc _, Holds.newAt (w := (((w.alloc _).alloc _).alloc _).alloc _) (by simp) _ _, ⟨_, (Holds.newAt (w := ((w.alloc _).alloc _).alloc _) (by simp) _ _).alloc _, ⟨by simp, fun p q hp hq hne g e => ?_, fun p g hp e => ?_⟩, fun p hp => ?_⟩, hb0⟩
    · rw [hg p hp] at e; cases e
    · rw [hg p hp] at e; cases e
    · rw [hg p hp]; exact World.ownsRow_nil _ _ _ _
  have hbase : w.heap.size = w.heap.size := rfl
  clear hmk hb0
  generalize hbe : w.heap.size = base at *
  go_loopg [13] L.length (fun f x wr => ∃ k : Nat, x = .int .i64 k ∧ k ≤ L.length ∧ L.length ≤ k + f ∧ TreL L base (.slice a L.length cap) k w wr)
  case atStart => exact ⟨0, rfl, by omega, by omega, hT0⟩
  case round =>
    clear hT0
    obtain ⟨k, rfl, hk, hf, hLB, hLI, hZ, hPB, hCB, ⟨cs, hCC, hCs, hKR⟩, hb⟩ := hrel
    have hbs : base ≤ wr.heap.size := by have := hb.size; omega
    by_cases hlt : k < L.length
    · have hlt' : (k : Int) < L.length := by omega
      obtain ⟨g, o, pa, pc, rfl, hg, c0, c1, c2, -, -, -, -, -, -⟩ := hLI.at k hlt
      have hbn : Below wr.heap.size wr (wr.alloc (.cells #[.int .i64 L[k].parent, .string L[k].name, .slice pa L[k].props.length pc] 76)) := (Below.refl _ _).alloc (Nat.le_refl _) _
      have kn := Keeps.of_fresh hbn (fun _ => False)
      have hb2 := hb.alloc (o := .cells #[.int .i64 L[k].parent, .string L[k].name, .slice pa L[k].props.length pc] 76) hbs
      have hCs2 : CsD cs L.length (wr.alloc (.cells #[.int .i64 L[k].parent, .string L[k].name, .slice pa L[k].props.length pc] 76)) := ⟨hCs.1, hCs.2.1, fun p q hp e => by have := hCs.2.2 p q hp e; simp; omega⟩
      have hKR2 := hKR.keeps kn (fun _ _ _ _ e => e)
      by_cases hk0 : k = 0
      · have hkz : ¬ (k : Int) > 0 := by omega
        have hfin : TreL L base (.slice (some ⟨g, o, none⟩) L.length cap) (k + 1) w (wr.alloc (.cells #[.int .i64 L[k].parent, .string L[k].name, .slice pa L[k].props.length pc] 76)) :=
          ⟨hLB.alloc _, hLI.new hbn, hZ.alloc _, hPB.alloc _, hCB.alloc _, ⟨cs, hCC.alloc _, hCs2, fun p hp => by
            dsimp only
            rw [kidsI_no (by omega)]; exact hKR2 p hp⟩, hb2⟩
        have HF := Lib.hid hfin
        have HK0 := Lib.hid hk0
        clear hfin hLB hLI hZ hPB hCB hCC hCs hKR hCs2 hKR2 kn hk0
        go_wp2_with fail
        go_roundg (L.length - k - 1)
        case measure => omega
        case rel => exact ⟨k + 1, by go_num, by omega, by omega, HF.out⟩
      · have hk1 : (k : Int) > 0 := by omega
        obtain ⟨hp0, hp1⟩ := hS.2.1 k (by omega) hlt
        have hpk := hp0
        rw [parOf_at hlt] at hp0 hp1
        generalize hpe : L[k].parent = par at *
        obtain ⟨p, rfl⟩ := Int.eq_ofNat_of_zero_le hp0
        have HPE := Lib.hid (show parOf L k = (p : Int) from by rw [parOf_at hlt]; exact hpe)
        have hpn : p < L.length := by omega
        have hrow := hKR2 p hpn
        have hcp : cs[p]? = some (cs.getD p undef) := by simp [Array.getD_eq_getD_getElem?, hCs.1, hpn]
        have hkl := kidsI_len L p k
        have hLB2 := hLB.alloc (.cells #[.int .i64 (p : Int), .string L[k].name, .slice pa L[k].props.length pc] 76)
        have hZ2 := hZ.alloc (.cells #[.int .i64 (p : Int), .string L[k].name, .slice pa L[k].props.length pc] 76)
        have hPB2 := hPB.alloc (.cells #[.int .i64 (p : Int), .string L[k].name, .slice pa L[k].props.length pc] 76)
        have hCB2 := hCB.alloc (.cells #[.int .i64 (p : Int), .string L[k].name, .slice pa L[k].props.length pc] 76)
        have hCC2 := hCC.alloc (.cells #[.int .i64 (p : Int), .string L[k].name, .slice pa L[k].props.length pc] 76)
        have hLI2 := hLI.new hbn
        have hNB := Holds.new wr #[.int .i64 (p : Int), .string L[k].name, .slice pa L[k].props.length pc] 76
        have hCsO : ∀ q b, q < L.length → (cs.getD q undef).ownBlock = some b → b < wr.heap.size := hCs.2.2
        clear hpe hpk hCs hKR hLB hZ hPB hCB hCC hLI
        go_wp2_with fail
        refine wp_region_any (by kernel_rfl) ?_
        refine wpAny_ops (ops' := treOps 6) (by kernel_rfl) ?_
        refine kid_region6 base (base + 1 + 1 + 1 + 1) wr.heap.size (base + 1 + 1 + 1) L.length p k wr.heap.size L[k].name (.slice pa L[k].props.length pc) (cs.getD p undef) cs (kidsI L p k) (wr.alloc (.cells #[.int .i64 (p : Int), .string L[k].name, .slice pa L[k].props.length pc] 76)) _ _ rfl hpn (by omega) (by simp) hcp rfl rfl rfl ?_ (by exact hCC2) (by exact row_new hrow (Below.refl _ _).drew) ?_
        · exact ⟨hCB2, hNB, (Keeps.refl _ _).drew, by simp; omega⟩
        intro c w2 g' c' hsb hS2 hZ3 hR3 hat
        obtain ⟨x20, x21, x22, x23, x24, x25, x26, x27, x28, x29, x30, x31, hc⟩ := hsb.ex [20, 21, 22, 23, 24, 25, 26, 27, 28, 29, 30, 31] (by kernel_rfl)
        subst hc
        simp only [List.setIfInBounds_toArray, List.set_cons_zero, List.set_cons_succ]
        have kS := hS2.2.2.1
        have hne : ∀ {b : Nat} {ys : Array Value} {t : TypeId}, Holds (wr.alloc (.cells #[.int .i64 (p : Int), .string L[k].name, .slice pa L[k].props.length pc] 76)) b ys t → (t ≠ 22 ∨ b ≠ base + 1 + 1 + 1) → t ≠ 3 → ¬ (b = base + 1 + 1 + 1 ∨ (cs.getD p undef).ownBlock = some b) := by
          intro b ys t hb h1 h2 e
          rcases e with rfl | e
          · rcases h1 with h1 | h1
            · exact holds_ne hb hCC2 h1 rfl
            · exact h1 rfl
          · obtain ⟨_, cur, q⟩ := row_own_holds hrow e
            exact holds_ne hb q h2 rfl
        have hlb := (hrow.lt)
        have hgd : ∀ q, q < L.length → (cs.setIfInBounds p (.slice (some ⟨g', 0, none⟩) ((kidsI L p k).length + 1) c')).getD q undef = if q = p then .slice (some ⟨g', 0, none⟩) ((kidsI L p k).length + 1) c' else cs.getD q undef := by
          intro q hq
          by_cases e : q = p
          · subst e; simp [Array.getD_eq_getD_getElem?, hCs2.1, hq]
          · rw [if_neg e]; simp [Array.getD_eq_getD_getElem?, Array.getElem?_setIfInBounds_ne (Ne.symm e)]
        have hsz2 : wr.heap.size < w2.heap.size := by have := kS.size; simp at this; omega
        have hgl : g' < w2.heap.size := (hR3.lt g' rfl).2
        have hgo : ∀ q, q < L.length → q ≠ p → ∀ b, (cs.getD q undef).ownBlock = some b → b ≠ g' := by
          intro q hq hqp b hb e
          subst e
          rcases hat with h | h
          · exact hCs2.2.1 q p hq hpn hqp b hb h
          · exact absurd (hCsO q b hq hb) (by omega)
        have hCs3 : CsD (cs.setIfInBounds p (.slice (some ⟨g', 0, none⟩) ((kidsI L p k).length + 1) c')) L.length w2 := by
          refine ⟨by simpa using hCs2.1, ?_, ?_⟩
          · intro q r hq hr hqr b e e2
            rw [hgd q hq] at e
            rw [hgd r hr] at e2
            by_cases h1 : q = p
            · rw [if_pos h1] at e
              have : g' = b := Option.some.inj e
              subst this
              rw [if_neg (fun h => hqr (by rw [h1, h]))] at e2
              exact hgo r hr (fun h => hqr (by rw [h1, h])) _ e2 rfl
            · rw [if_neg h1] at e
              by_cases h2 : r = p
              · rw [if_pos h2] at e2
                have : g' = b := Option.some.inj e2
                subst this
                exact hgo q hq h1 _ e rfl
              · rw [if_neg h2] at e2
                exact hCs2.2.1 q r hq hr hqr b e e2
          · intro q b hq e
            rw [hgd q hq] at e
            by_cases h1 : q = p
            · rw [if_pos h1] at e
              have : g' = b := Option.some.inj e
              omega
            · rw [if_neg h1] at e
              have := hCsO q b hq e
              omega
        have hKR3 : KRows base (cs.setIfInBounds p (.slice (some ⟨g', 0, none⟩) ((kidsI L p k).length + 1) c')) L.length (fun p => kidsI L p (k + 1)) w2 := by
          intro q hq
          dsimp only
          rw [hgd q hq]
          by_cases h1 : q = p
          · subst h1
            rw [if_pos rfl, kidsI_yes (by omega) HPE.out, List.length_append, List.length_singleton]
            exact hR3
          · rw [if_neg h1, kidsI_no (fun h => h1 (by have := HPE.out.symm.trans h.2; omega))]
            refine ownsRow_keeps (hKR2 q hq) kS (fun b hb e => ?_)
            rcases e with e | e
            · obtain ⟨_, cur, q2⟩ := row_own_holds (hKR2 q hq) hb
              subst e
              exact holds_ne q2 hCC2 (by decide) rfl
            · exact hCs2.2.1 q p hq hpn h1 b hb e
        have hb3 : Below base w w2 := hb2.trans (kS.below (by simp; omega) (fun b hb e => by
          rcases e with e | e
          · omega
          · have := (row_own_holds hrow e).1; omega))
        have hfin : TreL L base (.slice (some ⟨g, o, none⟩) L.length cap) (k + 1) w w2 :=
          ⟨hLB2.keeps kS (hne hLB2 (.inl (by decide)) (by decide)), hLI2.keeps kS (fun b hb e => by
            rcases e with e | e
            · omega
            · have := (row_own_holds hrow e).1; omega), hZ2.keeps kS (hne hZ2 (.inl (by decide)) (by decide)), hPB2.keeps kS (hne hPB2 (.inr (by omega)) (by decide)), hCB2.keeps kS (hne hCB2 (.inl (by decide)) (by decide)), ⟨_, hZ3, hCs3, hKR3⟩, hb3⟩
        have HF := Lib.hid hfin
        clear hfin hsb hS2 hZ3 hR3 hat kS hne hgd hgo hCs3 hKR3 hb3 hcp hCsO hlb
        go_wp2_with fail
        go_roundg (L.length - k - 1)
        case measure => omega
        case rel => exact ⟨k + 1, by go_num, by omega, by omega, HF.out⟩
    · have x0 := hLB.cell 0
      have y0 := hPB.cell 0
      have yf := hPB.free 0
      have yl := hPB.lt
      have xl := hLB.lt
      have hV := Holds.newAt (w := (wr.setCell ⟨base + 1 + 1, 0, none⟩ (.slice (some ⟨wr.heap.size, 0, none⟩) L.length L.length)).alloc (.cells (Array.replicate L.length (.int .i64 0)) 3)) (B := wr.heap.size + 1) (by simp) #[.nilFunc] 159
      have v0 := hV.cell 0
      have vf := hV.free 0
      have hkL : k = L.length := by omega
      subst hkL
      have ka : Keeps (· = base + 1 + 1) wr (wr.setCell ⟨base + 1 + 1, 0, none⟩ (.slice (some ⟨wr.heap.size, 0, none⟩) L.length L.length)) := (Keeps.refl (· = base + 1 + 1) wr).setCell (p := ⟨base + 1 + 1, 0, none⟩) (Or.inr rfl) _
      have hb2 : Below wr.heap.size wr ((wr.alloc (.cells (Array.replicate L.length (.int .i64 0)) 3)).alloc (.cells #[fnV (base + 1) (base + 1 + 1) base (base + 1 + 1 + 1 + 1) (wr.heap.size + 1)] 159)) := ((Below.refl _ _).alloc (Nat.le_refl _) _).alloc (by simp) _
      have hV0 : VisW L base (base + 1) (base + 1 + 1) base (base + 1 + 1 + 1 + 1) (wr.heap.size + 1) wr.heap.size (base + 1 + 1 + 1) (.slice a L.length cap) cs [] (fun p => kidsI L p L.length)
          (((wr.setCell ⟨base + 1 + 1, 0, none⟩ (.slice (some ⟨wr.heap.size, 0, none⟩) L.length L.length)).alloc (.cells (Array.replicate L.length (.int .i64 0)) 3)).alloc (.cells #[fnV (base + 1) (base + 1 + 1) base (base + 1 + 1 + 1 + 1) (wr.heap.size + 1)] 159)) := by
        have hbA : Below (wr.setCell ⟨base + 1 + 1, 0, none⟩ (.slice (some ⟨wr.heap.size, 0, none⟩) L.length L.length)).heap.size (wr.setCell ⟨base + 1 + 1, 0, none⟩ (.slice (some ⟨wr.heap.size, 0, none⟩) L.length L.length)) (((wr.setCell ⟨base + 1 + 1, 0, none⟩ (.slice (some ⟨wr.heap.size, 0, none⟩) L.length L.length)).alloc (.cells (Array.replicate L.length (.int .i64 0)) 3)).alloc (.cells #[fnV (base + 1) (base + 1 + 1) base (base + 1 + 1 + 1 + 1) (wr.heap.size + 1)] 159)) := ((Below.refl _ _).alloc (Nat.le_refl _) _).alloc (by simp) _
        have hrep : natArr (List.replicate L.length 0) = Array.replicate L.length (.int .i64 0) := by simp [natArr, natCells]
        refine ⟨⟨by simp; omega, ((hLB.keeps ka (by omega)).alloc _).alloc _, (hLI.keeps ka (fun q hq e => by omega)).new hbA, ((hPB.set 0 _).alloc _).alloc _, ((hCB.keeps ka (by omega)).alloc _).alloc _, ((hCC.keeps ka (by omega)).alloc _).alloc _, Holds.newAt (w := (wr.setCell ⟨base + 1 + 1, 0, none⟩ (.slice (some ⟨wr.heap.size, 0, none⟩) L.length L.length)).alloc _) (by simp) _ _⟩, ⟨_, ((hZ.keeps ka (by omega)).alloc _).alloc _, TreeS.nil _ _⟩, ⟨List.replicate L.length 0, by simp, ?_, fun q hq => absurd hq (Nat.not_lt_zero q)⟩, ?_⟩
        · rw [hrep]; exact (Holds.newAt (w := wr.setCell ⟨base + 1 + 1, 0, none⟩ (.slice (some ⟨wr.heap.size, 0, none⟩) L.length L.length)) (by simp) _ _).alloc _
        · exact (hKR.keeps ka (fun p q hp e e2 => by
            subst e2
            obtain ⟨_, cur, q2⟩ := row_own_holds (hKR p hp) e
            exact holds_ne q2 hPB (by decide) rfl)).keeps (Keeps.of_fresh hbA (fun _ => False)) (fun _ _ _ _ e => e)
      have hcs2 : CsOk cs L.length wr.heap.size := ⟨hCs.1, hCs.2.1, fun p q hp e h => by have := hCs.2.2 p q hp e; omega⟩
      have hvis := walk_visit L base (base + 1) (base + 1 + 1) base (base + 1 + 1 + 1 + 1) (wr.heap.size + 1) wr.heap.size (base + 1 + 1 + 1) (.slice a L.length cap) cs hS hD hn hpl hcs2 (by omega) (by omega) L.length 0 [] [] (-1) _ _ hS.1 (by omega) (by simp [ordT]) (by unfold moveT; rw [if_pos rfl]; exact hS.2.2.symm) (kidsI_ok L) hV0
      have hbb : Below base w (((wr.setCell ⟨base + 1 + 1, 0, none⟩ (.slice (some ⟨wr.heap.size, 0, none⟩) L.length L.length)).alloc (.cells (Array.replicate L.length (.int .i64 0)) 3)).alloc (.cells #[fnV (base + 1) (base + 1 + 1) base (base + 1 + 1 + 1 + 1) (wr.heap.size + 1)] 159)) := ((hb.setCell (p := ⟨base + 1 + 1, 0, none⟩) (by simp; omega) _).alloc (by simp; omega) _).alloc (by simp; omega) _
      rw [List.nil_append] at hvis
      have HVIS := Lib.hid hvis
      clear hvis hV0 hb2 ka hcs2
      go_wp2_with fail
      refine HVIS.out.mono ?_
      rintro e w5 ⟨rfl, K', -, -, hVV, hb5⟩
      obtain ⟨⟨hbs5, -, -, hPB5, -, -, -⟩, ⟨tv, hZ5, hT5⟩, ⟨l, hl1, hl2, hl3⟩, -⟩ := hVV
      have hb6 := hbb.trans hb5
      obtain ⟨ta, tc, rfl⟩ := tree_slice hT5.row
      have z0 := hZ5.cell 0
      have zf := hZ5.free 0
      have p0 := hPB5.cell 0
      have pf := hPB5.free 0
      have HL3 := Lib.hid hl3
      have HL1 := Lib.hid hl1
      clear HVIS hbb hb5 x0 y0 yf yl xl v0 vf hV hb hLB hLI hZ hPB hCB hCC hKR hCs hl3 hl1
      have hZ6 := (((hZ5.set 0 (.slice ta ((walkR L L.length 0).map (moveT L)).length tc)).other ⟨base + 1 + 1, 0, none⟩ (.slice (some ⟨wr.heap.size, 0, none⟩) L.length L.length) (by show base + 1 ≠ base + 1 + 1; omega)).drew).cell 0
      have hP6 := (((hPB5.other ⟨base + 1, 0, none⟩ (.slice ta ((walkR L L.length 0).map (moveT L)).length tc) (by show base + 1 + 1 ≠ base + 1; omega)).set 0 (.slice (some ⟨wr.heap.size, 0, none⟩) L.length L.length)).drew).cell 0
      have kz : Keeps (fun b => b = base + 1 ∨ b = base + 1 + 1) w5 ((w5.setCell ⟨base + 1, 0, none⟩ (.slice ta ((walkR L L.length 0).map (moveT L)).length tc)).setCell ⟨base + 1 + 1, 0, none⟩ (.slice (some ⟨wr.heap.size, 0, none⟩) L.length L.length)).drew :=
        (((Keeps.refl _ w5).setCell (p := ⟨base + 1, 0, none⟩) (Or.inr (Or.inl rfl)) _).setCell (p := ⟨base + 1 + 1, 0, none⟩) (Or.inr (Or.inr rfl)) _).drew
      have hT6 := hT5.keeps kz (fun b e => by
        rcases e with rfl | rfl
        · exact Or.inr ⟨_, _, hZ5, by decide, by decide⟩
        · exact Or.inr ⟨_, _, hPB5, by decide, by decide⟩)
      have hl6 := hl2.keeps kz (fun e => by
        rcases e with e | e
        · exact holds_ne hl2 hZ5 (by decide) e
        · exact holds_ne hl2 hPB5 (by decide) e)
      have hb7 := hb6.trans (kz.below hbs5 (fun b hb e => by omega))
      have hge : base ≤ wr.heap.size := hbs
      simp only [List.length_map] at hZ6 hP6 hT6 hl6 hb7
      have HF := Lib.hid (And.intro hT6 (And.intro hl6 hb7))
      clear hT6 hl6 hb7 kz hT5 hl2 hb6
      go_wp2_with fail
      go_region
      all_goals go_wp2_with fail
      all_goals exact bodyPost_ret (v := .tuple #[.agg #[.slice ta (walkR L L.length 0).length tc], .slice (some ⟨wr.heap.size, 0, none⟩) L.length L.length]) (by simp [results, Tryz.results113, go_sem, hZ6, hP6]) rfl ⟨_, _, l, rfl, by rw [hbe]; exact HF.out.1, by rw [hbe]; exact hge, HF.out.2.1, HL1.out, HL3.out, by rw [hbe]; exact HF.out.2.2⟩

theorem walk_Tree (R : Nat → Prop) (v : Value) (L : List NodeT) (w : World) (hL : NodesIn R w v L) (hS : Shape L) (hD : Dis L) (hn : L.length ≤ 1000) (hpl : ∀ n ∈ L, n.props.length ≤ 1000) :
    Calls Tryz.prog 113 #[v] w fun e w' => ∃ tv gP l, e = .returned (.tuple #[.agg #[tv], .slice (some ⟨gP, 0, none⟩) L.length L.length]) ∧ TreeRow w' w.heap.size tv (sortedT L) ∧ w.heap.size ≤ gP ∧ Holds w' gP (natArr l) 3 ∧ l.length = L.length ∧ (∀ q (h : q < (ordT L).length), l.getD (ordT L)[q] 0 = q) ∧ Below w.heap.size w w' :=
  (walk_TreeS R v L w hL hS hD hn hpl).mono fun _ _ ⟨tv, gP, l, h1, h2, h3⟩ => ⟨tv, gP, l, h1, h2.row, h3⟩
end Go.Proofs.YtjfkjnakmmkkiaaGreat
