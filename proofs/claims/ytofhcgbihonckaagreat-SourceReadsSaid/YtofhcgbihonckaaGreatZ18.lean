/- Package source: Read. | Definitions in memory, read; the awake of bringuplaw04. -/
import Derived.Test.YtofhcgbihonckaaGreatZ15
import Derived.Test.YtofhcgbihonckaaGreatZ17
import Derived.Test.YtofhcgbihonckaaGreatZ9
set_option linter.unusedVariables false
set_option linter.unusedSimpArgs false
set_option linter.unusedSectionVars false
namespace Go.Proofs.YtofhcgbihonckaaGreat
open Go.RowKit
def SrcPost (s : ByteArray) (file : Int) (w : World) (e : Ending) (w' : World) : Prop :=
  ∃ v, e = .returned (.tuple #[v, posAgg (srcT s.data.toList file).2.1, .int .i64 (srcT s.data.toList file).2.2]) ∧ DefsRow w' w.heap.size file v (srcT s.data.toList file).1 ∧ Below w.heap.size w w'
theorem tok_kind (a b : Int) (s : ByteArray) (file l q : Int) (wx : World) : (Instr.field 65 (.agg #[.int .i64 a, .string s, .int .i64 b, .int .i64 file, .int .i64 l, .int .i64 q]) 0).run Tryz.prog wx = .ok (.int .i64 a) wx := by kernel_rfl
theorem DefsRow.lower {w : World} {base b2 : Nat} {file : Int} {v : Value} {D : List DefT} (h : DefsRow w base file v D) (hb : b2 ≤ base) : DefsRow w b2 file v D := by
  obtain ⟨vs, h1, h2, h3⟩ := h
  exact ⟨vs, h1, row_base h2 hb, fun j h h' => (h3 j h h').lower hb⟩
theorem tokIn_row {w : World} {base B : Nat} {v : Value} {file : Int} {L : List Tok} (h : w.ownsRow base 65 6 v L.length (toksCells file L)) (hne : L ≠ []) (hB : w.heap.size ≤ B) : TokIn B w v file L := by
  obtain ⟨g, cap, rfl, _, hg, _, hc⟩ := tok_row h hne
  exact ⟨g, cap, rfl, by omega, fun i hi k u hu => hc i _ (List.getElem?_eq_getElem hi) k u hu⟩
set_option maxRecDepth 100000 in
set_option maxHeartbeats 8000000 in
theorem source_Read (s : ByteArray) (file : Int) (w : World) (hs : s.size ≤ maxLen) (h0 : Lay0 w) :
    Calls Tryz.prog 9 #[.string s, .int .i64 file] w (SrcPost s file w) := by
  have hb0 : Below w.heap.size w (w.alloc (.cells #[.int .i64 0, .int .i64 0, .int .i64 0] 27)) := (Below.refl _ _).alloc (Nat.le_refl _) _
  have hZ0 := Holds.new w #[.int .i64 0, .int .i64 0, .int .i64 0] 27
  have hrd := token_Read s file _ hs (h0.keeps (Keeps.of_fresh hb0 (fun _ => False)) (fun e => e))
  have htx := readT_text s.data.toList file
  unfold ReadPost posAgg at hrd
  unfold SrcPost
  have hT : ∃ T, srcT s.data.toList file = T := ⟨_, rfl⟩
  obtain ⟨T, hT⟩ := hT
  rw [hT]
  unfold srcT at hT
  generalize readT s.data.toList file = RT at *
  obtain ⟨L, ⟨p1, p2, p3⟩, er⟩ := RT
  simp only at hrd htx hT
  unfold posAgg
  have hsz : (w.alloc (.cells #[.int .i64 0, .int .i64 0, .int .i64 0] 27)).heap.size = w.heap.size + 1 := by simp
  clear h0
  go_enter Tryz.func9, Tryz.ntmps9
  go_wp2_with fail
  generalize w.alloc (.cells #[.int .i64 0, .int .i64 0, .int .i64 0] 27) = w0 at *
  refine (by exact hrd : Calls _ _ _ _ _).mono ?_
  rintro e w1 ⟨lv, rfl, hrow, hb1⟩
  have kb1 : Keeps (fun _ => False) w0 w1 := Keeps.of_fresh hb1 _
  have hK1 : Keeps (fun _ => False) w w1 := (Keeps.of_fresh hb0 (fun _ => False)).trans kb1 (fun _ _ e => e)
  have hZ1 := hZ0.keeps kb1 (fun e => e)
  have hZ2 := hZ1.alloc (.cells #[.int .i64 p1, .int .i64 p2, .int .i64 p3] 27)
  have hP2 := Holds.new w1 #[.int .i64 p1, .int .i64 p2, .int .i64 p3] 27
  have hK2 := hK1.alloc (.cells #[.int .i64 p1, .int .i64 p2, .int .i64 p3] 27)
  have hrow2 := World.ownsRow.alloc hrow (.cells #[.int .i64 p1, .int .i64 p2, .int .i64 p3] 27)
  have hzl := hZ1.lt
  clear hrd hb0 hZ0 hb1 kb1 hK1 hrow
  by_cases he : er = 0
  · subst he
    rw [if_neg (by simp)] at hT
    obtain ⟨ts, t, hLe, h8⟩ := htx.2.2 rfl
    have hok : LOk L := ⟨htx.2.1, htx.1, ts, t, hLe, h8⟩
    have hne : L ≠ [] := by rw [hLe]; simp
    have hpos : 0 < L.length := List.length_pos_iff.2 hne
    have hti := tokIn_row (B := (w1.alloc (.cells #[.int .i64 p1, .int .i64 p2, .int .i64 p3] 27)).heap.size) hrow2 hne (Nat.le_refl _)
    obtain ⟨gL, cL, rfl, _⟩ := id hti
    have hA3 : SrcAt ((w1.alloc (.cells #[.int .i64 p1, .int .i64 p2, .int .i64 p3] 27)).alloc (.cells #[.slice (some ⟨gL, 0, none⟩) L.length cL, .int .i64 0, .slice none 0 0, .pointer none] 63)) (w1.heap.size + 1) (w1.alloc (.cells #[.int .i64 p1, .int .i64 p2, .int .i64 p3] 27)).heap.size file L (.slice (some ⟨gL, 0, none⟩) L.length cL) (.slice none 0 0) 0 [] :=
      ⟨Holds.newAt (by simp) _ _, hti.keeps ((Keeps.refl (fun _ => False) _).alloc _) (fun _ e => e.elim), DefsRow.none _ _ _, by simp, by simp, hpos, hok, Nat.le_refl _⟩
    have hZ3 := hZ2.alloc (.cells #[.slice (some ⟨gL, 0, none⟩) L.length cL, .int .i64 0, .slice none 0 0, .pointer none] 63)
    have hK3 := hK2.alloc (.cells #[.slice (some ⟨gL, 0, none⟩) L.length cL, .int .i64 0, .slice none 0 0, .pointer none] 63)
    have hbase : (w1.alloc (.cells #[.int .i64 p1, .int .i64 p2, .int .i64 p3] 27)).heap.size = w1.heap.size + 1 := by simp
    have hw1 : w.heap.size < w1.heap.size := hzl
    have hfu : L.length < 0 + fuelP L := by unfold fuelP; omega
    generalize hN : fuelP L = N at *
    generalize hTR : topsR L N 0 [] = TR at *
    have HTR := Lib.hid hTR
    have HOK := Lib.hid hok
    have hlen := htx.2.1
    rw [hbase] at hA3
    clear hP2 hrow2 hti hZ2 hK2 hN hTR htx hok hLe hbase
    go_wp2_with fail
    generalize (w1.alloc (.cells #[.int .i64 p1, .int .i64 p2, .int .i64 p3] 27)).alloc (.cells #[.slice (some ⟨gL, 0, none⟩) L.length cL, .int .i64 0, .slice none 0 0, .pointer none] 63) = w3 at *
    go_loopg [] N (fun f wr => ∃ (j : Nat) (acc : List DefT) (ov : Value), Hid (topsR L f j acc = TR) ∧ L.length < j + f ∧ SrcAt wr (w1.heap.size + 1) (w1.heap.size + 1) file L (.slice (some ⟨gL, 0, none⟩) L.length cL) ov j acc ∧ Keeps (fun b => w1.heap.size + 1 ≤ b) w3 wr)
    case atStart => exact ⟨0, [], .slice none 0 0, HTR, hfu, hA3, Keeps.refl _ _⟩
    case round =>
      obtain ⟨j, acc, ov, hR, hfj, hA, hK⟩ := hrel
      have hjl := hA.lt
      obtain ⟨f, hf⟩ : ∃ f, gk = f + 1 := ⟨gk - 1, by omega⟩
      have hS := hR.out
      rw [hf, topsR] at hS
      have hnx := src_next wr _ _ file L _ ov j _ hA
      unfold tokAgg at hnx
      obtain ⟨t, htk⟩ : ∃ t, t = tkN L j := ⟨_, rfl⟩
      rw [← htk] at hnx hS
      have HTK := Lib.hid htk
      clear htk hR
      obtain ⟨t0, t1, t2, t3, t4⟩ := t
      simp only at hnx hS
      have hfd := tok_kind t0 t2 ⟨t1.toArray⟩ file t3 t4
      go_wp2_with fail
      refine (by exact hnx : Calls _ _ _ _ _).mono ?_
      rintro e w4 ⟨rfl, hb4⟩
      have kb4 : Keeps (fun _ => False) wr w4 := Keeps.of_fresh hb4 _
      have hA4 := hA.keeps kb4
      have hK4 := hK.trans kb4 (S := (fun b => w1.heap.size + 1 ≤ b)) (fun _ _ e => e.elim)
      clear hnx hb4 kb4 hA hK
      by_cases h8 : t0 = 8
      · subst h8
        rw [if_pos rfl] at hS
        subst hS
        simp only at hT
        subst hT
        have hZ4 := hZ3.keeps hK4 (by omega)
        have hK5 : Keeps (fun _ => False) w w4 := hK3.trans (hK4.mono (S := fun b => w.heap.size < b) (fun b _ e => by omega)) (fun b hb e => by omega)
        obtain ⟨n0, n1, n2, nf0, nf1, nf2, nl⟩ := three hZ4
        have c2 : w4.cell? ⟨w1.heap.size + 1, 2, none⟩ = some ov := hA4.holds.cell 2
        have crl := hA4.holds.lt
        have hd := hA4.defs
        obtain ⟨oa, oc, rfl⟩ := hd.slice
        have HD := Lib.hid hd
        have HZ4 := Lib.hid hZ4
        have HK5 := Lib.hid hK5
        clear hd hZ4 hK5 hK4 hA4
        go_wp2_with fail
        have z1 := set_three HZ4.out (.int .i64 0) (.int .i64 0) (.int .i64 0)
        have z2 := set3_keeps (S := fun _ => False) HK5.out (B := w.heap.size) (.inl (Nat.le_refl _)) (.int .i64 0) (.int .i64 0) (.int .i64 0)
        have z3 := (HD.out.keeps (set3_keeps (S := (· = w.heap.size)) (Keeps.refl _ w4) (.inr rfl) (.int .i64 0) (.int .i64 0) (.int .i64 0)) (Apart3.one HZ4.out (by decide) (by decide) (by decide))).lower (show w.heap.size ≤ w1.heap.size + 1 by omega)
        unfold set3 at z1 z2 z3
        obtain ⟨q0, q1, q2, _⟩ := three z1
        exact bodyPost_ret (v := .tuple #[.slice oa acc.length oc, .agg #[.int .i64 0, .int .i64 0, .int .i64 0], .int .i64 0]) (by simp [results, Tryz.results9, go_sem, q0, q1, q2]) rfl ⟨_, rfl, z3, z2.below (Nat.le_refl _) (fun _ _ e => e)⟩
      · rw [if_neg h8] at hS
        have h8b : (t0 != 8) = true := by simpa using h8
        have htp := src_top w4 _ _ file L _ ov j _ hA4
        unfold SrcOut at htp
        generalize topR L j = PR at *
        clear h8
        go_wp2_with fail
        refine (by exact htp : Calls _ _ _ _ _).mono ?_
        rintro e w5 ⟨hb5, hm⟩
        have hK5 := hK4.trans (Keeps.of_below hb5) (S := (fun b => w1.heap.size + 1 ≤ b)) (fun _ _ e => e)
        clear htp hA4 hK4 hb5 hfd
        cases PR with
        | ok q =>
          obtain ⟨k, ds⟩ := q
          simp only at hm hS
          obtain ⟨rfl, ov6, hA6, hjk⟩ := hm
          have HS := Lib.hid hS
          clear hS
          go_wp2_with fail
          go_roundg (gk - 1)
          case measure => omega
          case rel =>
            refine ⟨k, acc ++ ds, ov6, ?_, by omega, hA6, hK5⟩
            rw [hf, Nat.add_sub_cancel]
            exact HS
        | error q =>
          obtain ⟨k, c⟩ := q
          simp only at hm hS
          obtain ⟨rfl, ov6, x, ff, hH, hF⟩ := hm
          subst hS
          simp only at hT
          subst hT
          have hZ5 := hZ3.keeps hK5 (by omega)
          have hK6 : Keeps (fun _ => False) w w5 := hK3.trans (hK5.mono (S := fun b => w.heap.size < b) (fun b _ e => by omega)) (fun b hb e => by omega)
          obtain ⟨n0, n1, n2, nf0, nf1, nf2, nl⟩ := three hZ5
          have c3 : w5.cell? ⟨w1.heap.size + 1, 3, none⟩ = some (.pointer (some ⟨ff, 0, none⟩)) := hH.cell 3
          have crl := hH.lt
          have frl := hF.lt
          have d0 : w5.cell? ⟨ff, 0, none⟩ = some (.int .i64 file) := hF.cell 0
          have d1 : w5.cell? ⟨ff, 1, none⟩ = some (.int .i64 (tkN L k).line) := hF.cell 1
          have d2 : w5.cell? ⟨ff, 2, none⟩ = some (.int .i64 (tkN L k).col) := hF.cell 2
          have d3 : w5.cell? ⟨ff, 3, none⟩ = some (.int .i64 c) := hF.cell 3
          obtain ⟨ln, hln⟩ : ∃ z, z = (tkN L k).line := ⟨_, rfl⟩
          obtain ⟨cl, hcl⟩ : ∃ z, z = (tkN L k).col := ⟨_, rfl⟩
          rw [← hln] at d1
          rw [← hcl] at d2
          have HLN := Lib.hid hln
          have HCL := Lib.hid hcl
          clear hln hcl
          have HZ5 := Lib.hid hZ5
          have HK6 := Lib.hid hK6
          clear hZ5 hK6 hH hF hK5
          go_wp2_with fail
          go_region
          all_goals
            go_wp2_with fail
            have z1 := (set_three HZ5.out (.int .i64 file) (.int .i64 ln) (.int .i64 cl)).drew
            have z2 := (set3_keeps (S := fun _ => False) HK6.out (B := w.heap.size) (.inl (Nat.le_refl _)) (.int .i64 file) (.int .i64 ln) (.int .i64 cl)).drew
            unfold set3 at z1 z2
            obtain ⟨q0, q1, q2, _⟩ := three z1
            exact bodyPost_ret (v := .tuple #[.slice none 0 0, .agg #[.int .i64 file, .int .i64 ln, .int .i64 cl], .int .i64 c]) (by simp [results, Tryz.results9, go_sem, q0, q1, q2]) rfl ⟨_, (by rw [HLN.out, HCL.out]), DefsRow.none _ _ _, z2.below (Nat.le_refl _) (fun _ _ e => e)⟩
  · rw [if_pos he] at hT
    subst hT
    have heb : (er != 0) = true := by simpa using he
    obtain ⟨n0, n1, n2, nf0, nf1, nf2, nl⟩ := three hZ2
    obtain ⟨m0, m1, m2, mf0, mf1, mf2, ml⟩ := three hP2
    obtain ⟨va, vc, rfl⟩ := row_slice hrow2
    have HZ2 := Lib.hid hZ2
    have HK2 := Lib.hid hK2
    clear he htx hZ2 hK2 hP2 hrow2
    go_wp2_with fail
    generalize w1.alloc (.cells #[.int .i64 p1, .int .i64 p2, .int .i64 p3] 27) = w2 at *
    go_region
    all_goals
      go_wp2_with fail
      have z1 := (set_three HZ2.out (.int .i64 p1) (.int .i64 p2) (.int .i64 p3)).drew
      have z2 := (set3_keeps (S := fun _ => False) HK2.out (B := w.heap.size) (.inl (Nat.le_refl _)) (.int .i64 p1) (.int .i64 p2) (.int .i64 p3)).drew
      unfold set3 at z1 z2
      obtain ⟨q0, q1, q2, _⟩ := three z1
      exact bodyPost_ret (v := .tuple #[.slice none 0 0, .agg #[.int .i64 p1, .int .i64 p2, .int .i64 p3], .int .i64 er]) (by simp [results, Tryz.results9, go_sem, q0, q1, q2]) rfl ⟨_, rfl, DefsRow.none _ _ _, z2.below (Nat.le_refl _) (fun _ _ e => e)⟩
end Go.Proofs.YtofhcgbihonckaaGreat
namespace Go.Proofs.YtofhcgbihonckaaGreat
open Go.RowKit
theorem row_read {w : World} {base : Nat} {e : TypeId} {size : Nat} {v : Value} {n : Nat} {xs : List Value} (h : w.ownsRow base e size v n xs) (hn : 0 < n) :
    ∃ g cap, v = .slice (some ⟨g, 0, none⟩) n cap ∧ g < w.heap.size ∧ base ≤ g ∧ ∀ j, j < n * size → w.cell? ⟨g, j, none⟩ = xs[j]? := by
  rcases h.2 with ⟨_, h0⟩ | ⟨g, cap, cur, rfl, hb, hh, _⟩
  · omega
  · exact ⟨g, cap, rfl, lt_of_block hh, hb, fun j hj => h.cellAt j hj⟩
theorem cellCells_at : ∀ (cs : List CellT) (k : Nat) (h : k < cs.length), (cellCells cs)[k * 2]? = some (.int .i64 cs[k].value) ∧ (cellCells cs)[k * 2 + 1]? = some (.string cs[k].label)
  | c :: cs, 0, _ => ⟨rfl, rfl⟩
  | c :: cs, k + 1, h => by
    have := cellCells_at cs k (by simpa using h)
    rw [show (k + 1) * 2 = k * 2 + 2 from by omega]
    exact this
theorem partCells_at : ∀ (ps : List PartT) (vs : List Value) (k : Nat) (h : k < ps.length) (h2 : k < vs.length), vs.length = ps.length →
    (partCells ps vs)[k * 3]? = some (.int .i64 ps[k].kind) ∧ (partCells ps vs)[k * 3 + 1]? = some vs[k] ∧ (partCells ps vs)[k * 3 + 2]? = some (.string ps[k].text)
  | p :: ps, v :: vs, 0, _, _, _ => ⟨rfl, rfl, rfl⟩
  | p :: ps, v :: vs, k + 1, h, h2, hl => by
    have := partCells_at ps vs k (by simpa using h) (by simpa using h2) (by simpa using hl)
    rw [show (k + 1) * 3 = k * 3 + 3 from by omega]
    exact this
theorem defCells_at (file : Int) : ∀ (D : List DefT) (vs : List Value) (k : Nat) (h : k < D.length) (h2 : k < vs.length), vs.length = D.length →
    (defCells file D vs)[k * 7]? = some (.int .i64 D[k].kind) ∧ (defCells file D vs)[k * 7 + 1]? = some (.string D[k].label) ∧ (defCells file D vs)[k * 7 + 2]? = some (.string D[k].name) ∧ (defCells file D vs)[k * 7 + 3]? = some vs[k] ∧
    (defCells file D vs)[k * 7 + 4]? = some (.int .i64 file) ∧ (defCells file D vs)[k * 7 + 5]? = some (.int .i64 D[k].line) ∧ (defCells file D vs)[k * 7 + 6]? = some (.int .i64 D[k].col)
  | d :: D, v :: vs, 0, _, _, _ => ⟨rfl, rfl, rfl, rfl, rfl, rfl, rfl⟩
  | d :: D, v :: vs, k + 1, h, h2, hl => by
    have := defCells_at file D vs k (by simpa using h) (by simpa using h2) (by simpa using hl)
    rw [show (k + 1) * 7 = k * 7 + 7 from by omega]
    exact this
section
variable {w : World} {base : Nat} {file : Int} {v : Value} {cs : List CellT} {ps : List PartT} {D : List DefT}
theorem cells_at (h : CellsRow w base v cs) (h0 : 0 < cs.length) : ∃ g cap, v = .slice (some ⟨g, 0, none⟩) cs.length cap ∧ g < w.heap.size ∧ ∀ k (hk : k < cs.length), w.cell? ⟨g, k * 2, none⟩ = some (.int .i64 cs[k].value) ∧ w.cell? ⟨g, k * 2 + 1, none⟩ = some (.string cs[k].label) := by
  obtain ⟨g, cap, rfl, hg, _, hc⟩ := row_read h h0
  refine ⟨g, cap, rfl, hg, fun k hk => ?_⟩
  obtain ⟨a0, a1⟩ := cellCells_at cs k hk
  exact ⟨(hc _ (by omega)).trans a0, (hc _ (by omega)).trans a1⟩
theorem parts_at (h : PartsRow w base v ps) (h0 : 0 < ps.length) : ∃ g cap, v = .slice (some ⟨g, 0, none⟩) ps.length cap ∧ g < w.heap.size ∧ ∀ k (hk : k < ps.length), ∃ cv, w.cell? ⟨g, k * 3, none⟩ = some (.int .i64 ps[k].kind) ∧ w.cell? ⟨g, k * 3 + 1, none⟩ = some cv ∧ w.cell? ⟨g, k * 3 + 2, none⟩ = some (.string ps[k].text) ∧ CellsRow w base cv ps[k].cells := by
  obtain ⟨vs, hl, hr, hs⟩ := h
  obtain ⟨g, cap, rfl, hg, _, hc⟩ := row_read hr h0
  refine ⟨g, cap, rfl, hg, fun k hk => ?_⟩
  obtain ⟨a0, a1, a2⟩ := partCells_at ps vs k hk (by omega) hl
  exact ⟨vs[k]'(by omega), (hc _ (by omega)).trans a0, (hc _ (by omega)).trans a1, (hc _ (by omega)).trans a2, hs k hk (by omega)⟩
theorem defs_at (h : DefsRow w base file v D) (h0 : 0 < D.length) : ∃ g cap, v = .slice (some ⟨g, 0, none⟩) D.length cap ∧ g < w.heap.size ∧ ∀ k (hk : k < D.length), ∃ pv, w.cell? ⟨g, k * 7, none⟩ = some (.int .i64 D[k].kind) ∧ w.cell? ⟨g, k * 7 + 1, none⟩ = some (.string D[k].label) ∧ w.cell? ⟨g, k * 7 + 2, none⟩ = some (.string D[k].name) ∧ w.cell? ⟨g, k * 7 + 3, none⟩ = some pv ∧
    w.cell? ⟨g, k * 7 + 4, none⟩ = some (.int .i64 file) ∧ w.cell? ⟨g, k * 7 + 5, none⟩ = some (.int .i64 D[k].line) ∧ w.cell? ⟨g, k * 7 + 6, none⟩ = some (.int .i64 D[k].col) ∧ PartsRow w base pv D[k].parts := by
  obtain ⟨vs, hl, hr, hs⟩ := h
  obtain ⟨g, cap, rfl, hg, _, hc⟩ := row_read hr h0
  refine ⟨g, cap, rfl, hg, fun k hk => ?_⟩
  obtain ⟨a0, a1, a2, a3, a4, a5, a6⟩ := defCells_at file D vs k hk (by omega) hl
  exact ⟨vs[k]'(by omega), (hc _ (by omega)).trans a0, (hc _ (by omega)).trans a1, (hc _ (by omega)).trans a2, (hc _ (by omega)).trans a3, (hc _ (by omega)).trans a4, (hc _ (by omega)).trans a5, (hc _ (by omega)).trans a6, hs k hk (by omega)⟩
end
theorem ex_read {w : World} {base : Nat} {v : Value} (h : DefsRow w base 0 v [⟨1, ⟨#[]⟩, ⟨#[47]⟩, [], 1, 1⟩, ⟨1, ⟨#[97]⟩, ⟨#[98]⟩, [], 1, 5⟩, ⟨3, ⟨#[]⟩, ⟨#[120]⟩, [⟨1, [⟨1, ⟨#[]⟩⟩, ⟨0, ⟨#[97]⟩⟩], ⟨#[]⟩⟩, ⟨2, [], ⟨#[116]⟩⟩], 1, 12⟩, ⟨3, ⟨#[]⟩, ⟨#[121]⟩, [], 1, 29⟩, ⟨2, ⟨#[]⟩, ⟨#[]⟩, [], 1, 32⟩, ⟨2, ⟨#[]⟩, ⟨#[]⟩, [], 1, 35⟩]) :
    ∃ g c p pc q qc, v = .slice (some ⟨g, 0, none⟩) 6 c ∧ w.cell? ⟨g, 8, none⟩ = some (.string ⟨#[97]⟩) ∧ w.cell? ⟨g, 9, none⟩ = some (.string ⟨#[98]⟩) ∧ w.cell? ⟨g, 17, none⟩ = some (.slice (some ⟨p, 0, none⟩) 2 pc) ∧ w.cell? ⟨p, 1, none⟩ = some (.slice (some ⟨q, 0, none⟩) 2 qc) ∧ w.cell? ⟨q, 3, none⟩ = some (.string ⟨#[97]⟩) ∧ w.cell? ⟨g, 35, none⟩ = some (.int .i64 2) ∧ g < w.heap.size ∧ p < w.heap.size ∧ q < w.heap.size := by
  obtain ⟨g, c, rfl, g1, hk⟩ := defs_at h (by decide)
  obtain ⟨_, _, b1, b2, _⟩ := hk 1 (by decide)
  obtain ⟨pv, _, _, _, b3, _, _, _, hp⟩ := hk 2 (by decide)
  obtain ⟨_, b5, _⟩ := hk 5 (by decide)
  obtain ⟨p, pc, rfl, g2, hpk⟩ := parts_at hp (by decide)
  obtain ⟨cv, _, d1, _, hc⟩ := hpk 0 (by decide)
  obtain ⟨q, qc, rfl, g3, hq⟩ := cells_at hc (by decide)
  exact ⟨g, c, p, pc, q, qc, rfl, b1, b2, b3, d1, (hq 1 (by decide)).2, b5, g1, g2, g3⟩
set_option maxRecDepth 100000 in
set_option maxHeartbeats 4000000 in
theorem law04_awake (w : World) (h0 : Lay0 w) : Calls Tryz.prog 11 #[] w fun e w' => e = .returned (.bool true) ∧ Below w.heap.size w w' := by
  have hrd := source_Read ⟨exT.toArray⟩ 0 w (by decide) h0
  unfold SrcPost posAgg at hrd
  rw [show (⟨exT.toArray⟩ : ByteArray).data.toList = exT from rfl, ex_plain] at hrd
  unfold exT at hrd
  clear h0
  go_enter Tryz.func11, Tryz.ntmps11
  go_wp2_with fail
  refine (by exact hrd : Calls _ _ _ _ _).mono ?_
  rintro e w1 ⟨v, rfl, hD, hb⟩
  obtain ⟨g, c, p, pc, q, qc, rfl, e1, e2, e3, e4, e5, e6, g1, g2, g3⟩ := ex_read hD
  clear hD hrd
  go_wp2_with fail
  go_ret
  exact ⟨rfl, hb.alloc hb.size _⟩
end Go.Proofs.YtofhcgbihonckaaGreat
