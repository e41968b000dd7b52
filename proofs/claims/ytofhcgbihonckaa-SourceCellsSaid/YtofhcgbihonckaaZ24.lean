/- The law SourceCells: the walk. -/
import Derived.Test.YtofhcgbihonckaaZ18
import Derived.Test.YtofhcgbihonckaaZ21
import Derived.Test.YtofhcgbihonckaaZ23

set_option linter.unusedVariables false
set_option linter.unusedSimpArgs false
set_option linter.unusedSectionVars false

namespace Go.Proofs.Ytofhcgbihonckaa
open Go.RowKit

theorem scl_read {w : World} {base : Nat} {v : Value} {x l c : Int} {d1 d3 : DefT} (h : DefsRow w base 0 v [d1, ⟨3, ⟨#[]⟩, ⟨#[112]⟩, [⟨1, [⟨x, ⟨#[]⟩⟩, ⟨5, ⟨#[]⟩⟩], ⟨#[]⟩⟩, ⟨2, [], ⟨#[115]⟩⟩, ⟨3, [], ⟨#[1, 2]⟩⟩, ⟨4, [], ⟨#[120, 49]⟩⟩], l, c⟩, d3]) :
    ∃ g c p pc q qc, v = .slice (some ⟨g, 0, none⟩) 3 c ∧ w.cell? ⟨g, 10, none⟩ = some (.slice (some ⟨p, 0, none⟩) 4 pc) ∧ w.cell? ⟨p, 1, none⟩ = some (.slice (some ⟨q, 0, none⟩) 2 qc) ∧
      w.cell? ⟨q, 0, none⟩ = some (.int .i64 x) ∧ w.cell? ⟨q, 1, none⟩ = some (.string ⟨#[]⟩) ∧ w.cell? ⟨q, 2, none⟩ = some (.int .i64 5) ∧ w.cell? ⟨q, 3, none⟩ = some (.string ⟨#[]⟩) ∧
      w.cell? ⟨p, 3, none⟩ = some (.int .i64 2) ∧ w.cell? ⟨p, 5, none⟩ = some (.string ⟨#[115]⟩) ∧ w.cell? ⟨p, 6, none⟩ = some (.int .i64 3) ∧ w.cell? ⟨p, 8, none⟩ = some (.string ⟨#[1, 2]⟩) ∧ w.cell? ⟨p, 9, none⟩ = some (.int .i64 4) ∧ w.cell? ⟨p, 11, none⟩ = some (.string ⟨#[120, 49]⟩) ∧
      g < w.heap.size ∧ p < w.heap.size ∧ q < w.heap.size := by
  obtain ⟨g, c, rfl, g1, hk⟩ := defs_at h (by simp)
  obtain ⟨pv, _, _, _, b3, _, _, _, hp⟩ := hk 1 (by simp)
  obtain ⟨p, pc, rfl, g2, hpk⟩ := parts_at hp (by simp)
  obtain ⟨cv, _, d1, _, hc⟩ := hpk 0 (by simp)
  obtain ⟨_, e0, _, e2, _⟩ := hpk 1 (by simp)
  obtain ⟨_, f0, _, f2, _⟩ := hpk 2 (by simp)
  obtain ⟨_, m0, _, m2, _⟩ := hpk 3 (by simp)
  obtain ⟨q, qc, rfl, g3, hq⟩ := cells_at hc (by simp)
  obtain ⟨n0, n1⟩ := hq 0 (by simp)
  obtain ⟨o0, o1⟩ := hq 1 (by simp)
  exact ⟨g, c, p, pc, q, qc, rfl, b3, d1, n0, n1, o0, o1, e0, e2, f0, f2, m0, m2, g1, g2, g3⟩
set_option maxRecDepth 100000 in
set_option maxHeartbeats 8000000 in
theorem srcCells_walk (a : Option Addr) (len cap : Nat) (w : World) (hi : IntsIn w a len) (hlc : len ≤ cap) (hcap : cap ≤ maxLen) (hnil : a = none → len = 0 ∧ cap = 0) (h0 : Lay0 w) :
    Calls Try.prog 4 #[.slice a len cap] w fun e w' => e = .returned (.bool true) ∧ Below w.heap.size w w' := by
  have LL := Lib.hid (fun (wx : World) (hb : Below w.heap.size w wx) => h0.keeps (Keeps.of_fresh hb (fun _ => False)) (fun e => e))
  clear h0
  go_enter Try.func4, Try.ntmps4
  go_wp2_with fail
  refine (mk_New a len cap _ hi hlc hcap hnil).mono ?_
  rintro e w1 ⟨tb, rfl, hT1, hb1⟩
  have htb := hT1.1
  go_wp2_with fail
  refine (mk_Expression w.heap.size tb 3 (by omega) w1 hT1).mono ?_
  unfold ExPost
  rintro e w2 ⟨s, x, rfl, hX, hT2, hK2⟩
  have hb2 : Below w.heap.size w w2 := hb1.trans (hK2.below hb1.size (by intro i hi e; omega))
  have hx0 := hX.lo
  have hx1 := hX.hi
  have hsl := hX.len
  have hL := xlen_smallS (show 3 ≤ 5 by omega)
  obtain ⟨d1, d3, l, c, hS⟩ := scl_plain hX (by omega)
  have a1 := adds_of [47, 32, 123, 32, 112, 32, 61, 32, 60, 40] s (by simp; omega)
  have a2 := adds_of ([47, 32, 123, 32, 112, 32, 61, 32, 60, 40] ++ s) (41 :: sclV) (by simp [sclV]; omega)
  obtain ⟨R, hR⟩ : ∃ z, z = [47, 32, 123, 32, 112, 32, 61, 32, 60, 40] ++ s ++ (41 :: sclV) := ⟨_, rfl⟩
  rw [← hR] at a2
  have hRe : sclU ++ ((40 :: (s ++ [41])) ++ sclV) = R := by rw [hR]; simp [sclU]
  rw [hRe] at hS
  have hRl : R.length ≤ 100000 := by rw [hR]; simp [sclV]; omega
  unfold Adds at a1 a2
  unfold sclV at a2
  have hrd := source_Read ⟨R.toArray⟩ 0 w2 (by simp [ByteArray.size, maxLen]; omega) (LL.out w2 hb2)
  unfold SrcPost posAgg at hrd
  rw [show (⟨R.toArray⟩ : ByteArray).data.toList = R from rfl, hS] at hrd
  have HB2 := Lib.hid hb2
  clear hX hT1 hT2 hb1 hK2 hS hR hRe hb2
  generalize ([47, 32, 123, 32, 112, 32, 61, 32, 60, 40] ++ s : List UInt8) = s1 at *
  go_wp2_with fail
  refine (by exact hrd : Calls _ _ _ _ _).mono ?_
  rintro e w3 ⟨v, rfl, hD, hb⟩
  obtain ⟨g, cg, p, pc, q, qc, rfl, e1, e2, e3, e4, e5, e6, e7, e8, e9, f1, f2, f3, g1, g2, g3⟩ := scl_read hD
  have hb3 := (HB2.out.trans (hb.mono HB2.out.size)).alloc (HB2.out.trans (hb.mono HB2.out.size)).size (.cells #[.int .i64 0, .int .i64 0, .int .i64 0] 24)
  have haw := law04_awake _ (LL.out _ hb3)
  have HB3 := Lib.hid hb3
  clear hrd hD hb hb3 a1 a2
  go_wp2_with fail
  all_goals
    refine (by exact haw : Calls _ _ _ _ _).mono ?_
    rintro e w4 ⟨rfl, hb4⟩
    go_wp2_with fail
    go_ret
    exact ⟨rfl, HB3.out.trans (hb4.mono HB3.out.size)⟩
end Go.Proofs.Ytofhcgbihonckaa
