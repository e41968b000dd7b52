/- Laws of bringuplaw08: the names of a tree, one after the other (plain), and a row of texts in memory. | The law BlobSizes: its walk (printed by gsz.py). -/
import Derived.Test.YtofhcgbihonckaaGreatDoorZ19
import Derived.Deep.AppendLies
import Derived.Deep.RegionLaw
import Derived.Deep.LoopGhost

set_option linter.unusedVariables false
set_option linter.unusedSimpArgs false
set_option linter.unusedSectionVars false

namespace Go.Proofs.YtofhcgbihonckaaGreatDoor
open Go.RowKit Go.ChangeMaps

theorem hasN_succ (M : List ByteArray) (s : ByteArray) (j : Nat) (h : j < M.length) : hasN (M.take (j + 1)) s = (hasN (M.take j) s || decide (M[j] = s)) := by
  unfold hasN
  rw [List.take_succ_eq_append_getElem h, List.any_append]
  simp
theorem hasN_zero (M : List ByteArray) (s : ByteArray) : hasN (M.take 0) s = false := by simp [hasN]
/-- A row of texts of one's own. -/
def Txts (w : World) (base : Nat) (v : Value) (M : List ByteArray) : Prop := w.ownsRow base 9 1 v M.length (M.map fun n => Value.string n)
theorem Txts.nil (w : World) (base : Nat) : Txts w base (.slice none 0 0) [] := World.ownsRow_nil _ _ _ _
theorem Txts.shape {w : World} {base : Nat} {v : Value} {M : List ByteArray} (h : Txts w base v M) : ∃ a c, v = .slice a M.length c := row_slice h
theorem Txts.keeps {S : Nat → Prop} {w w' : World} {base : Nat} {v : Value} {M : List ByteArray} (h : Txts w base v M) (k : Keeps S w w') (hs : ∀ g, v.ownBlock = some g → ¬ S g) : Txts w' base v M := ownsRow_keeps h k hs
theorem Txts.new {w w' : World} {base : Nat} {v : Value} {M : List ByteArray} (h : Txts w base v M) (k : Below w.heap.size w w') : Txts w' base v M := h.keeps (Keeps.of_fresh k (fun _ => False)) (fun _ _ e => e)
theorem Txts.at {w : World} {base : Nat} {v : Value} {M : List ByteArray} (h : Txts w base v M) (j : Nat) (hj : j < M.length) : ∃ g c, v = .slice (some ⟨g, 0, none⟩) M.length c ∧ base ≤ g ∧ g < w.heap.size ∧ w.cell? ⟨g, j, none⟩ = some (.string M[j]) := by
  have h' : w.ownsRow base 9 1 v M.length (M.map fun n => Value.string n) := h
  obtain ⟨g, c, rfl, h1, h2⟩ := h'.form (by omega)
  refine ⟨g, c, rfl, h1, h2, ?_⟩
  rw [h'.cellAt j (by omega)]
  simp [hj]
theorem infoStr8 : (Tryz.prog.info? 9).map (fun i => (i.zero, i.size, i.bytes)) = some (some (.string ⟨#[]⟩), 1, 16) := by kernel_rfl
theorem propsN_len : ∀ (ps : List PropT) (N : List ByteArray), (propsN N ps).length ≤ N.length + ps.length := by
  intro ps
  induction ps with
  | nil => intro N; simp [propsN]
  | cons p ps ih =>
    intro N
    have h1 := ih (addN N p.name)
    have h2 : (addN N p.name).length ≤ N.length + 1 := by unfold addN; split <;> simp
    simp only [propsN, List.length_cons]
    omega
theorem nodesN_len : ∀ (T : List NodeT) (N : List ByteArray), (nodesN N T).length ≤ N.length + (T.map fun n => n.props.length).sum := by
  intro T
  induction T with
  | nil => intro N; simp [nodesN]
  | cons n T ih =>
    intro N
    have h1 := ih (propsN N n.props)
    have h2 := propsN_len n.props N
    simp only [nodesN, List.map_cons, List.sum_cons]
    omega
theorem names_strs : ∀ (M : List ByteArray), M.length ≤ (strsT M).length := by
  intro M
  induction M with
  | nil => simp
  | cons n M ih => rw [strsT_cons, List.length_append, List.length_cons, List.length_cons]; omega
end Go.Proofs.YtofhcgbihonckaaGreatDoor

namespace Go.Proofs.YtofhcgbihonckaaGreatDoor
open Go.RowKit Go.ChangeMaps

/-- Where the law stands ahead of node i. -/
def XLbsAO (T : List NodeT) (W : World) (i sz : Nat) (nv : Value) (M : List ByteArray) (w : World) : Prop :=
  Txts w W.heap.size nv M ∧ nodesN M (T.drop i) = nodesN [] T ∧ sz + nodesSz (T.drop i) = 32 + nodesSz T + (strsT M).length ∧ Below W.heap.size W w
/-- Where it stands ahead of property k. -/
def XLbsAI (ps : List PropT) (nP : List ByteArray) (M0 : List ByteArray) (s0 : Nat) (W : World) (k sz : Nat) (nv : Value) (M : List ByteArray) (w : World) : Prop :=
  Txts w W.heap.size nv M ∧ propsN M (ps.drop k) = nP ∧ sz + propsSz (ps.drop k) + (strsT M0).length = s0 + propsSz ps + (strsT M).length ∧ Below W.heap.size W w

set_option maxRecDepth 100000 in
set_option maxHeartbeats 8000000 in
theorem blobSizes_walk (a : Option Addr) (len cap : Nat) (w : World) (hi : IntsIn w a len) (hlc : len ≤ cap) (hcap : cap ≤ maxLen) (hnil : a = none → len = 0 ∧ cap = 0) (lay : Lay0 w) :
    Calls Tryz.prog 7 #[.slice a len cap] w fun e w' => e = .returned (.bool true) ∧ Below w.heap.size w w' := by
  have HLAY := Lib.hid lay
  have hw0 : 0 < w.heap.size := by obtain ⟨m, hm⟩ := lay; exact Nat.lt_of_le_of_lt (Nat.zero_le _) (World.block_lt_of_cell? w _ hm)
  clear lay
  go_enter Tryz.func7, Tryz.ntmps7
  go_wp2_with fail
  refine (mk_New a len cap _ hi hlc hcap hnil).mono ?_
  rintro e w1 ⟨tb, rfl, hT1, hb1⟩
  clear hi hnil
  have hB := hT1.1
  go_wp2_with fail
  refine (grow_TreeB w.heap.size tb 8 _ hT1 (by omega) (by omega)).mono ?_
  rintro e w2 ⟨v, T, rfl, hT, hc, hl, hbk, ht2, hk2⟩
  have hb2 : Below w.heap.size w w2 := hb1.trans (hk2.below hb1.size (fun i hi e => by omega))
  obtain ⟨va, vc, rfl⟩ := hT.slice
  obtain ⟨hL, hE1, hE2, hL44, -⟩ := enc_grown hc hl hbk (by omega)
  have hT' := hT.new ((Below.refl w2.heap.size w2).alloc (Nat.le_refl _) (.cells #[.slice va T.length vc] 25))
  have henc := blob_Encode _ _ T _ hT'.in
  unfold EncPost at henc
  rw [hE1, hE2] at henc
  have HENC := Lib.hid henc
  have HENK := Lib.hid (encOk_check hc)
  have htl : T.length ≤ 9 := by omega
  have hHZ := Holds.new w2 #[.slice va T.length vc] 25
  have hb2' : Below w.heap.size w (w2.alloc (.cells #[.slice va T.length vc] 25)) := hb2.alloc hb2.size _
  clear hT1 hb1 hT hE1 hE2 henc ht2 hk2 hc hbk hl
  go_wp2_with fail
  refine (by exact HENC.out : Calls _ _ _ _ _).mono ?_
  rintro e w3 ⟨v3, rfl, hv3, hb3⟩
  have hb3' : Below w.heap.size w w3 := hb2'.trans (hb3.mono hb2'.size)
  have hT3 := hT'.new hb3
  have hZ3 := hHZ.keeps (Keeps.of_fresh hb3 (fun _ => False)) (fun e => e)
  obtain ⟨tz, htz⟩ : ∃ tz, tz = w2.heap.size := ⟨_, rfl⟩
  rw [← htz] at hZ3 ⊢
  have z3 : w3.cell? ⟨tz, 0, none⟩ = some (.slice va T.length vc) := hZ3.cell 0
  have zl := hZ3.lt
  obtain ⟨gb, bc, rfl, hgb1, hgb2, hbc⟩ := bts_holds2 hv3 (by omega)
  have hr3 := hv3.read
  have hN3 := hT3.in.bound
  have HB3 := Lib.hid hb3'
  have HR3 := Lib.hid hr3
  have HN3 := Lib.hid hN3
  have HZ3 := Lib.hid hZ3
  have hs3 := hb3'.size
  have d1 : decide (((encodeT T).length : Int) < 44) = false := by simp; omega
  have d1' : decide ((encodeT T).length < 44) = false := by simp; omega
  have HI0 := Lib.hid (show XLbsAO T w3 0 32 (.slice none 0 0) [] w3 from ⟨Txts.nil _ _, rfl, by simp [strsT], Below.refl _ _⟩)
  have hlenT := encodeT_len T
  clear hb2 hb2' hb3 hb3' hr3 hv3 hT' hT3 hHZ hZ3 hN3 htz HENC
  obtain ⟨L, hLe⟩ : ∃ L, L = (encodeT T).length := ⟨_, rfl⟩
  rw [← hLe] at hL hL44 hlenT d1 d1' hbc ⊢
  have HL := Lib.hid hLe
  have HLT := Lib.hid hlenT
  have hbig : nodesSz T + (strsT (nodesN [] T)).length ≤ 40000 := by omega
  have htot := hlenT
  clear hLe hlenT htot
  go_wp2_with fail
  go_loopg [7, 8, 28] T.length (fun f x y z wr => ∃ (i sz : Nat) (nv : Value) (M : List ByteArray), z = .int .i64 i ∧ x = .int .i64 sz ∧ y = nv ∧ i ≤ T.length ∧ T.length ≤ i + f ∧ XLbsAO T w3 i sz nv M wr)
  case atStart => exact ⟨0, 32, .slice none 0 0, [], rfl, rfl, rfl, by omega, by omega, HI0.out⟩
  case round =>
    obtain ⟨i, sz, nv, M, rfl, rfl, rfl, hi1, hi2, hM, hnam, hsz, hbel⟩ := hrel
    obtain ⟨na, nc, rfl⟩ := hM.shape
    have hbs := hbel.size
    have hMl : (strsT M).length ≤ 40000 := by
      obtain ⟨R, hR⟩ := nodesN_pre (T.drop i) M
      rw [hnam] at hR
      have : (strsT (nodesN [] T)).length = (strsT M).length + (strsT R).length := by rw [hR, strs_len_app]
      omega
    have hMn := names_strs M
    have HZr := Lib.hid (HZ3.out.keeps (Keeps.of_fresh hbel (fun _ => False)) (fun e => e))
    by_cases hlt : i < T.length
    · obtain ⟨g, o, pa, pc, hva, hg, k0, k1, k2, hpr, hpc1, hpc2, -, -, -⟩ := HN3.out.at i hlt
      subst hva
      obtain ⟨nd, hnd⟩ : ∃ nd, nd = T[i] := ⟨_, rfl⟩
      have hmem : nd ∈ T := by rw [hnd]; exact List.getElem_mem hlt
      rw [← hnd] at k0 k1 k2 hpr hpc1
      have hnm := HENK.out.nm nd hmem
      obtain ⟨hpl, hps⟩ := HENK.out.pr nd hmem
      have hdr := Lib.hid (show T.drop i = nd :: T.drop (i + 1) from by rw [hnd]; exact List.drop_eq_getElem_cons hlt)
      have c0 := (hbel.cell (p := ⟨g, o + i * 3, none⟩) hg).trans k0
      have c1 := (hbel.cell (p := ⟨g, o + i * 3 + 1, none⟩) hg).trans k1
      have c2 := (hbel.cell (p := ⟨g, o + i * 3 + 2, none⟩) hg).trans k2
      have hgr : g < wr.heap.size := by omega
      have hN1 := Holds.new wr #[.int .i64 nd.parent, .string nd.name, .slice pa nd.props.length pc] 52
      have hM1 := hM.new ((Below.refl wr.heap.size wr).alloc (Nat.le_refl _) (.cells #[.int .i64 nd.parent, .string nd.name, .slice pa nd.props.length pc] 52))
      have kb1 : Below w3.heap.size w3 (wr.alloc (.cells #[.int .i64 nd.parent, .string nd.name, .slice pa nd.props.length pc] 52)) := hbel.alloc hbs _
      have HPR := Lib.hid hpr
      have HPS := Lib.hid hps
      have HNAM := Lib.hid hnam
      have HSZ := Lib.hid hsz
      have hnsz : nodesSz (T.drop i) = nodeSz nd + nodesSz (T.drop (i + 1)) := by rw [hdr.out]; simp [nodesSz]
      have hnle : nodesSz (T.drop i) ≤ nodesSz T := by
        have : nodesSz T = nodesSz (T.take i) + nodesSz (T.drop i) := by unfold nodesSz; rw [← List.sum_append, ← List.map_append, List.take_append_drop]
        omega
      have HNSZ := Lib.hid hnsz
      clear k0 k1 k2 hnd hpr hps hnam hsz hM hbel hnsz
      obtain ⟨par, nm, ps⟩ := nd
      simp only at c0 c1 c2 hnm hpl hpc1 hN1 hM1 kb1 HPR HPS hdr HNSZ
      have hnode : nodeSz ⟨par, nm, ps⟩ = 8 + (nm.size + 4) / 4 * 4 + propsSz ps := rfl
      have hszb : sz ≤ 100000 := by have := HSZ.out; omega
      have j1 : IntKind.i64.wrap ((nm.size : Int) + 4) = (nm.size : Int) + 4 := IntWalk.i64_in _ (by omega)
      have HW3 := Lib.hid hgr
      go_wp2_with fail
      obtain ⟨nb, hnb⟩ : ∃ nb, nb = wr.heap.size := ⟨_, rfl⟩
      rw [← hnb] at hN1 ⊢
      have hbs4 := kb1.size
      have KB1 := Lib.hid kb1
      clear c0 c1 c2 hnb hgr kb1
      generalize wr.alloc (.cells #[.int .i64 par, .string nm, .slice pa ps.length pc] 52) = w4 at *
      obtain ⟨s0, hs0⟩ : ∃ s0 : Nat, s0 = sz + (8 + (nm.size + 4) / 4 * 4) := ⟨_, rfl⟩
      have hs0i : (sz : Int) + (8 + ((nm.size : Int) + 4) / 4 * 4) = (s0 : Int) := by rw [hs0]; omega
      simp only [hs0i]
      clear hs0i
      have hs0b : s0 ≤ 100000 := by have := HSZ.out; omega
      obtain ⟨nP, hnP⟩ : ∃ nP, nP = propsN M ps := ⟨_, rfl⟩
      have HS0 := Lib.hid hs0
      have HNP := Lib.hid hnP
      have HP0 := Lib.hid (show XLbsAI ps nP M s0 w3 0 s0 (.slice na M.length nc) M w4 from ⟨hM1, by rw [hnP]; rfl, by rw [List.drop_zero], KB1.out⟩)
      have hpb : propsSz ps + s0 ≤ 100000 := by have := HSZ.out; have := HNSZ.out; omega
      clear hs0 hnP hM1
      obtain ⟨go, rfl⟩ : ∃ x : Nat, x = gk := ⟨_, rfl⟩
      obtain ⟨wo, rfl⟩ : ∃ x : World, x = wr := ⟨_, rfl⟩
      go_loopg [7, 8, 44] ps.length (fun f x y z wr => ∃ (k sz : Nat) (nv : Value) (M2 : List ByteArray), z = .int .i64 k ∧ x = .int .i64 sz ∧ y = nv ∧ k ≤ ps.length ∧ ps.length ≤ k + f ∧ XLbsAI ps nP M s0 w3 k sz nv M2 wr)
      case atStart => exact ⟨0, s0, _, M, rfl, rfl, rfl, by omega, by omega, HP0.out⟩
      case round =>
        obtain ⟨k, sz2, nv2, M2, rfl, rfl, rfl, hk1, hk2, hM2, hnam2, hsz2, hbel2⟩ := hrel
        obtain ⟨na2, nc2, rfl⟩ := hM2.shape
        have hbs5 := hbel2.size
        have hM2l : (strsT M2).length ≤ 40000 := by
          obtain ⟨R, hR⟩ := propsN_pre (ps.drop k) M2
          rw [hnam2, HNP.out] at hR
          obtain ⟨R2, hR2⟩ := nodesN_pre (T.drop (i + 1)) (propsN M ps)
          have e1 : nodesN (propsN M ps) (T.drop (i + 1)) = nodesN [] T := by have := HNAM.out; rw [hdr.out] at this; exact this
          have e2 : (strsT (nodesN [] T)).length = (strsT M2).length + (strsT R).length + (strsT R2).length := by rw [← e1, hR2, hR, strs_len_app, strs_len_app]
          omega
        have hM2n := names_strs M2
        by_cases hkl : k < ps.length
        · obtain ⟨pg, po, hpa, hpg, k0, k1, -, -⟩ := HPR.out.at k hkl
          subst hpa
          obtain ⟨hpn, hvl⟩ := HPS.out ps[k] (List.getElem_mem hkl)
          have hdp := Lib.hid (List.drop_eq_getElem_cons hkl)
          have c0 := (hbel2.cell (p := ⟨pg, po + k * 2, none⟩) hpg).trans k0
          have c1 := (hbel2.cell (p := ⟨pg, po + k * 2 + 1, none⟩) hpg).trans k1
          have hpgr : pg < wr.heap.size := by omega
          have hpsz : propsSz (ps.drop k) = propSz ps[k] + propsSz (ps.drop (k + 1)) := by unfold propsSz; rw [hdp.out, List.map_cons, List.sum_cons]
          have hps2 : propsSz (ps.drop k) ≤ propsSz ps := by
            have : propsSz ps = propsSz (ps.take k) + propsSz (ps.drop k) := by unfold propsSz; rw [← List.sum_append, ← List.map_append, List.take_append_drop]
            omega
          generalize ps[k] = pr at *
          obtain ⟨pn, vl⟩ := pr
          simp only at hpn hvl c0 c1 hdp hpsz
          have hprop : propSz ⟨pn, vl⟩ = 12 + (vl.size + 3) / 4 * 4 := rfl
          have hQ := Holds.new wr #[.string pn, .string vl] 54
          have hM3 := hM2.new ((Below.refl wr.heap.size wr).alloc (Nat.le_refl _) (.cells #[.string pn, .string vl] 54))
          have kb5 : Below w3.heap.size w3 (wr.alloc (.cells #[.string pn, .string vl] 54)) := hbel2.alloc hbs5 _
          have HPSZ := Lib.hid hpsz
          have HSZ2 := Lib.hid hsz2
          have HNAM2 := Lib.hid hnam2
          have hsz2b : sz2 ≤ 200000 := by omega
          have hprop2 := hprop
          have HPROP := Lib.hid hprop2
          clear k0 k1 hpsz hsz2 hnam2 hM2 hbel2 hprop hprop2
          go_wp2_with fail
          obtain ⟨qb, hqb⟩ : ∃ qb, qb = wr.heap.size := ⟨_, rfl⟩
          rw [← hqb] at hQ ⊢
          have hbs6 := kb5.size
          have KB5 := Lib.hid kb5
          clear c0 c1 hqb kb5 hpgr
          generalize wr.alloc (.cells #[.string pn, .string vl] 54) = w6 at *
          obtain ⟨s1, hs1⟩ : ∃ s1 : Nat, s1 = sz2 + (12 + (vl.size + 3) / 4 * 4) := ⟨_, rfl⟩
          have hs1i : (sz2 : Int) + (12 + ((vl.size : Int) + 3) / 4 * 4) = (s1 : Int) := by rw [hs1]; omega
          simp only [hs1i]
          clear hs1i
          have hs1b : s1 ≤ 300000 := by omega
          have HS1 := Lib.hid hs1
          clear hs1
          have q0 : w6.cell? ⟨qb, 0, none⟩ = some (.string pn) := hQ.cell 0
          have ql := hQ.lt
          obtain ⟨gi, rfl⟩ : ∃ x : Nat, x = gk := ⟨_, rfl⟩
          obtain ⟨wi, rfl⟩ : ∃ x : World, x = wr := ⟨_, rfl⟩
          go_loopg [13, 59] M2.length (fun f x z wr => ∃ j : Nat, z = .int .i64 j ∧ x = .bool (hasN (M2.take j) pn) ∧ j ≤ M2.length ∧ M2.length ≤ j + f ∧ w6 = wr)
          case atStart => exact ⟨0, rfl, by rw [hasN_zero], by omega, by omega, rfl⟩
          case round =>
            obtain ⟨j, rfl, rfl, hj1, hj2, rfl⟩ := hrel
            by_cases hjl : j < M2.length
            · obtain ⟨gn, cn, e1, hgn1, hgn2, cj⟩ := hM3.at j hjl
              cases e1
              have hsucc := hasN_succ M2 pn j hjl
              cases hh : hasN (M2.take j) pn with
              | true =>
                rw [hh, Bool.true_or] at hsucc
                have HSC := Lib.hid hsucc
                clear hsucc hh
                go_wp2_with fail
                go_roundg (gk - 1)
                case measure => omega
                case rel => exact ⟨j + 1, by go_num, by rw [HSC.out], by omega, by omega, rfl⟩
              | false =>
                rw [hh, Bool.false_or] at hsucc
                generalize M2[j] = mj at *
                by_cases he : mj = pn
                · rw [decide_eq_true he] at hsucc
                  have HSC := Lib.hid hsucc
                  clear hsucc hh
                  subst he
                  go_wp2_with fail
                  go_roundg (gk - 1)
                  case measure => omega
                  case rel => exact ⟨j + 1, by go_num, by rw [HSC.out], by omega, by omega, rfl⟩
                · rw [decide_eq_false he] at hsucc
                  have HSC := Lib.hid hsucc
                  have e2 : (mj.toList == pn.toList) = false := by
                    rw [beq_eq_false_iff_ne]; intro h; rw [ByteArray.toList_eq, ByteArray.toList_eq] at h
                    exact he (ByteArray.ext (Array.toList_inj.1 h))
                  clear hsucc hh he
                  go_wp2_with fail
                  go_roundg (gk - 1)
                  case measure => omega
                  case rel => exact ⟨j + 1, by go_num, by rw [HSC.out], by omega, by omega, rfl⟩
            · obtain rfl : j = M2.length := by omega
              rw [List.take_length]
              cases hh : hasN M2 pn with
              | true =>
                have hadd : addN M2 pn = M2 := by unfold addN; rw [if_pos hh]
                have HF := Lib.hid (show XLbsAI ps nP M s0 w3 (k + 1) s1 (.slice na2 M2.length nc2) M2 w6 from ⟨hM3, by have := HNAM2.out; rw [hdp.out, propsN, hadd] at this; exact this, by have := HSZ2.out; have := HPSZ.out; have := HS1.out; have := HPROP.out; omega, KB5.out⟩)
                clear hh hadd
                go_wp2_with fail
                go_roundg (gi - 1)
                case measure => omega
                case rel => exact ⟨k + 1, s1, _, M2, by go_num, rfl, rfl, by omega, by omega, HF.out⟩
              | false =>
                have hadd : addN M2 pn = M2 ++ [pn] := by unfold addN; rw [if_neg (by rw [hh]; simp)]
                have hstr : (strsT (M2 ++ [pn])).length = (strsT M2).length + (pn.size + 1) := by rw [strs_len_app, strs_one]
                have hnamn : propsN (M2 ++ [pn]) (ps.drop (k + 1)) = nP := by have := HNAM2.out; rw [hdp.out, propsN, hadd] at this; exact this
                have hszn : ∀ sz3 : Nat, sz3 = s1 + pn.size + 1 → sz3 + propsSz (ps.drop (k + 1)) + (strsT M).length = s0 + propsSz ps + (strsT (M2 ++ [pn])).length := fun sz3 e => by rw [hstr]; have := HSZ2.out; have := HPSZ.out; have := HS1.out; have := HPROP.out; omega
                have HNAMN := Lib.hid hnamn
                have HSZN := Lib.hid hszn
                have HM3 := Lib.hid hM3
                have HQ := Lib.hid hQ
                obtain ⟨i0, hin, hz0, hz1, hz2⟩ := info_parts infoStr8
                have hqn : ∀ g, Value.ownBlock (.slice na2 M2.length nc2) = some g → g ≠ qb := fun g hg e => by
                  subst e
                  exact owns_ne_holds hM3 hQ (by decide) hg
                have hnl : ∀ g, Value.ownBlock (.slice na2 M2.length nc2) = some g → w3.heap.size ≤ g := fun g hg => (hM3.lt g hg).1
                have HQN := Lib.hid hqn
                have HNL := Lib.hid hnl
                clear hh hadd hstr hnamn hszn hM3 hQ hqn hnl
                go_wp2_with fail
                go_region_law (refine step_append_lies _ (by rfl) _ _ _ (by rfl) w3.heap.size 9 i0 _ 1 16 Tryz.underlying49 hin hz0 hz1 hz2 rfl (by omega) _ M2.length (M2.map fun n => Value.string n) (by rfl) ((HM3.out.alloc _).drew) ⟨w6.heap.size, 0, none⟩ 1 1 [.string pn] (by rfl) (by rfl) (World.news_of_block (cs := #[.string pn]) (t := 9) (fr := (0, 0)) (heap_alloc_new w6 _)) (by simp [Value.oneCell']) (by omega) (by unfold maxLen; omega) (by omega) (by simp; omega) (w6.heap.size + 1) (by simp) ?_; intro gg cap2 w8 hown8 hgrow hat hlt8; have q8 : w8.cell? ⟨qb, 0, none⟩ = some (.string pn) := (((HQ.out.alloc _).drew).keeps (Keeps.of_grown hgrow (fun _ e => e)) (fun e => HQN.out _ e rfl)).cell 0)
                all_goals
                  have hT8 : Txts w8 w3.heap.size (.slice (some ⟨gg, 0, none⟩) (M2.length + 1) cap2) (M2 ++ [pn]) := by
                    unfold Txts; rw [List.length_append, List.map_append]; exact hown8
                  have kb8 : Below w3.heap.size w3 w8 := ((KB5.out.alloc KB5.out.size (.cells #[.string pn] 9)).drew).grown hgrow (by simp; omega) (fun g hg => HNL.out g hg)
                  have HF := Lib.hid (show XLbsAI ps nP M s0 w3 (k + 1) (s1 + pn.size + 1) (.slice (some ⟨gg, 0, none⟩) (M2.length + 1) cap2) (M2 ++ [pn]) w8 from ⟨hT8, HNAMN.out, HSZN.out _ rfl, kb8⟩)
                  clear hT8 kb8 hown8 hgrow hat
                  go_wp2_with fail
                  go_roundg (gi - 1)
                  case measure => omega
                  case rel => exact ⟨k + 1, s1 + pn.size + 1, _, M2 ++ [pn], by go_num, by first | rfl | simp | go_num, rfl, by omega, by omega, HF.out⟩
        · have hkk : k = ps.length := by omega
          have hfin : XLbsAO T w3 (i + 1) sz2 (.slice na2 M2.length nc2) M2 wr := by
            refine ⟨hM2, ?_, ?_, hbel2⟩
            · have h1 := HNAM.out
              rw [hdr.out, nodesN] at h1
              rw [← h1]
              congr 1
              have h2 := hnam2
              rw [hkk, List.drop_length] at h2
              rw [show M2 = nP from h2, HNP.out]
            · have h3 := hsz2; rw [hkk, List.drop_length] at h3; have h4 : propsSz [] = 0 := rfl; have := HSZ.out; have := HNSZ.out; have := HS0.out; omega
          have HFIN := Lib.hid hfin
          clear hfin hM2 hbel2 hnam2 hsz2 hkk
          go_wp2_with fail
          go_roundg (go - 1)
          case measure => omega
          case rel => exact ⟨i + 1, sz2, _, M2, by go_num, rfl, rfl, by omega, by omega, HFIN.out⟩
    · have hii : i = T.length := by omega
      have hMe : M = nodesN [] T := by have h := hnam; rw [hii, List.drop_length] at h; exact h
      have hse : sz = L := by
        have h := hsz
        rw [hii, List.drop_length, hMe] at h
        have h4 : nodesSz [] = 0 := rfl
        have := HLT.out
        omega
      have hLi : ((L : Int) == (sz : Int)) = true := by rw [beq_iff_eq, hse]
      have HBW := Lib.hid (HB3.out.trans (hbel.mono HB3.out.size))
      clear hnam hsz hM hbel hse hMe hii
      go_wp2_with fail
      refine (law08_awake _ (HLAY.out.keeps (Keeps.of_fresh HBW.out (fun _ => False)) (fun e => e)) (Nat.lt_of_lt_of_le hw0 HBW.out.size)).mono ?_
      rintro e w9 ⟨rfl, hb9⟩
      have HF := Lib.hid (HBW.out.trans (hb9.mono HBW.out.size))
      clear hb9
      go_wp2_with fail
      go_ret
      exact ⟨rfl, HF.out⟩
end Go.Proofs.YtofhcgbihonckaaGreatDoor
