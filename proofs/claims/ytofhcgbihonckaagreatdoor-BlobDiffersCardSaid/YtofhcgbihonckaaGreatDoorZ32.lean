/- Region 10 of bringuplaw08's BlobDiffers (printed by gdf2.py). | The law BlobDiffers: its walk. -/
import Derived.Test.YtofhcgbihonckaaGreatDoorZ19
import Derived.Test.YtofhcgbihonckaaGreatDoorZ31
import Derived.Test.YtofhcgbihonckaaGreatDoorZ2
import Derived.Test.YtofhcgbihonckaaGreatDoorZ30

set_option linter.unusedVariables false
set_option linter.unusedSimpArgs false
set_option linter.unusedSectionVars false

namespace Go.Proofs.YtofhcgbihonckaaGreatDoor
open Go.RowKit Go.ChangeMaps

theorem guard_val {c : Act} {d : Nat} {b : Bool} (h : c.tmps.getD d undef = .bool b) : c.tmps[d]? = some (.bool b) := by
  rw [Array.getD_eq_getD_getElem?] at h
  cases hx : c.tmps[d]? with
  | none => rw [hx] at h; cases h
  | some v => rw [hx] at h; rw [show v = .bool b from h]
theorem Bts.new {w w' : World} {base : Nat} {v : Value} {l : List UInt8} (h : Bts w base v l) (k : Below w.heap.size w w') : Bts w' base v l := h.keeps (Keeps.of_fresh k (fun _ => False)) (fun _ _ e => e)
noncomputable def lbgOps : Array Oper := (regOps (Tryz.f8.body.getD .skip) 10).getD #[]
theorem lbgR : inRow2 .any lbgOps = true := by kernel_rfl
theorem lbgRa : apartB lbgOps = true := by kernel_rfl
theorem lbgRn : lbgOps.size = 21 := by kernel_rfl
def LbgF (va vb xv yv : Value) (sA sB : ByteArray) (be : Bool) (j : Nat) : Value → World → Prop := match j with
  | 0 => fun u _ => u = .int .i64 0
  | 1 => fun u _ => u = .bool true
  | 2 => fun u _ => u = .bool true
  | 3 => fun u _ => u = .int .i64 0
  | 4 => fun u _ => u = .bool true
  | 5 => fun u _ => u = .bool true
  | 6 => fun u _ => u = .bool true
  | 7 => fun u _ => u = va
  | 8 => fun u _ => u = .string sA
  | 9 => fun u _ => u = vb
  | 10 => fun u _ => u = .string sB
  | 11 => fun u _ => u = .bool be
  | 12 => fun u _ => u = .agg #[xv]
  | 13 => fun u _ => u = .agg #[yv]
  | 14 => fun u _ => u = .bool be
  | 15 => fun u _ => u = .bool true
  | 16 => fun u _ => u = .bool true
  | 17 => fun u _ => u = .bool true
  | 18 => fun u _ => u = .bool true
  | 19 => fun u _ => u = .bool true
  | 20 => fun u _ => u = .bool true
  | _ => fun _ _ => True
theorem LbgF.new {va vb xv yv : Value} {sA sB : ByteArray} {be : Bool} {j : Nat} {u : Value} {w w' : World} (h : LbgF va vb xv yv sA sB be j u w) : LbgF va vb xv yv sA sB be j u w' := by
  unfold LbgF at *
  split at h
  all_goals exact h

set_option maxHeartbeats 4000000 in
set_option maxRecDepth 100000 in
theorem lbg_region {Q : Exit → Act → World → Prop} (X Y bA bB : Nat) (va vb xv yv : Value) (A B : List UInt8) (sA sB : ByteArray) (be : Bool) (T U : List NodeT) (W w : World) (Ac : Act) (hsz : Ac.tmps.size = 71)
    (RX RY : Nat → Prop) (hX : Holds W X #[xv] 25) (hY : Holds W Y #[yv] 25) (hXN : NodesIn RX W xv T) (hYN : NodesIn RY W yv U) (hXv : ∃ a c, xv = .slice a T.length c) (hYv : ∃ a c, yv = .slice a U.length c)
    (hA : Bts W bA va A) (hB : Bts W bB vb B) (hsA : Hid (sA = ⟨A.toArray⟩)) (hsB : Hid (sB = ⟨B.toArray⟩)) (hbe : (sA.toList == sB.toList) = be) (hTU : T = U ↔ be = true) (hLay : Lay0 W) (hW0 : 0 < W.heap.size)
    (a4 : Ac.tmps.getD 4 undef = .pointer (some ⟨X, 0, none⟩)) (a5 : Ac.tmps.getD 5 undef = .pointer (some ⟨Y, 0, none⟩)) (a8 : Ac.tmps.getD 8 undef = va) (a9 : Ac.tmps.getD 9 undef = .int .i64 0) (a10 : Ac.tmps.getD 10 undef = vb) (a11 : Ac.tmps.getD 11 undef = .int .i64 0)
    (hS : Below W.heap.size W w) (hQ : ∀ c w', SameBut lbgOps Ac c → Below W.heap.size W w' → c.tmps.getD 2 undef = .bool true → Q .normal c w') :
    wpAny Tryz.prog .any lbgOps Q lbgOps.size (Array.replicate lbgOps.size false) Ac w := by
  refine wpAny_inv2 (fun l c wx => RInv lbgOps Ac (LbgF va vb xv yv sA sB be) (fun wx => Below W.heap.size W wx) l c wx) lbgR (fun l c wx hI hl => hQ c wx hI.1 hI.2.1 (hI.fact 20 2 rfl (hl 20 (by rw [lbgRn]; decide)))) ?hstep _ _ _ _ (by simp) (by simp) (RInv.start hS)
  intro l c wx hI i' op ho _ hall K' hK'
  have hi : i' < 21 := by rw [← lbgRn]; exact (Array.getElem?_eq_some_iff.1 ho).1
  simp only [lbgOps, regOps, Tryz.f8, Option.getD_some, reduceIte, Nat.reduceEqDiff] at ho
  have hS := hI.2.1
  have s4 := (hI.slot 4 (by kernel_rfl)).trans a4
  have s5 := (hI.slot 5 (by kernel_rfl)).trans a5
  have s8 := (hI.slot 8 (by kernel_rfl)).trans a8
  have s9 := (hI.slot 9 (by kernel_rfl)).trans a9
  have s10 := (hI.slot 10 (by kernel_rfl)).trans a10
  have s11 := (hI.slot 11 (by kernel_rfl)).trans a11
  simp only [Array.getD_eq_getD_getElem?] at s4 s5 s8 s9 s10 s11
  have hd2 : lbgOps[2]?.bind (fun x => x.dst) = some 53 := by kernel_rfl
  have hd6 : lbgOps[6]?.bind (fun x => x.dst) = some 57 := by kernel_rfl
  have hd17 : lbgOps[17]?.bind (fun x => x.dst) = some 68 := by kernel_rfl
  have hic : i' = 0 ∨ i' = 1 ∨ i' = 2 ∨ i' = 3 ∨ i' = 4 ∨ i' = 5 ∨ i' = 6 ∨ i' = 7 ∨ i' = 8 ∨ i' = 9 ∨ i' = 10 ∨ i' = 11 ∨ i' = 12 ∨ i' = 13 ∨ i' = 14 ∨ i' = 15 ∨ i' = 16 ∨ i' = 17 ∨ i' = 18 ∨ i' = 19 ∨ i' = 20 := by omega
  rcases hic with rfl | rfl | rfl | rfl | rfl | rfl | rfl | rfl | rfl | rfl | rfl | rfl | rfl | rfl | rfl | rfl | rfl | rfl | rfl | rfl | rfl
  all_goals cases ho
  · go_simp
    exact hK' _ _ (hI.step lbgRa 0 51 rfl (by rw [hsz]; decide) _ _ rfl hall hS (fun _ _ h => h) rfl)
  · have e0 : c.tmps.getD 51 undef = .int .i64 0 := hI.fact 0 51 rfl (listed hall 0 (by kernel_rfl))
    simp only [Array.getD_eq_getD_getElem?] at e0
    go_simp
    exact hK' _ _ (hI.step lbgRa 1 52 rfl (by rw [hsz]; decide) _ _ rfl hall hS (fun _ _ h => h) rfl)
  · have e1 : c.tmps.getD 52 undef = .bool true := hI.fact 1 52 rfl (listed hall 1 (by kernel_rfl))
    simp only [Array.getD_eq_getD_getElem?] at e1
    go_simp
    exact hK' _ _ (hI.step lbgRa 2 53 rfl (by rw [hsz]; decide) _ _ rfl hall hS (fun _ _ h => h) rfl)
  · have g0 : c.tmps[53]? = some (.bool true) := guard_val (hI.fact 2 53 rfl (listed hall 2 (by kernel_rfl)))
    go_simp
    try rw [if_pos (by rw [hd2]; simp only [Option.bind_some, g0])]
    exact hK' _ _ (hI.step lbgRa 3 54 rfl (by rw [hsz]; decide) _ _ rfl hall hS (fun _ _ h => h) rfl)
  · have g0 : c.tmps[53]? = some (.bool true) := guard_val (hI.fact 2 53 rfl (listed hall 2 (by kernel_rfl)))
    have e3 : c.tmps.getD 54 undef = .int .i64 0 := hI.fact 3 54 rfl (listed hall 3 (by kernel_rfl))
    simp only [Array.getD_eq_getD_getElem?] at e3
    go_simp
    try rw [if_pos (by rw [hd2]; simp only [Option.bind_some, g0])]
    exact hK' _ _ (hI.step lbgRa 4 55 rfl (by rw [hsz]; decide) _ _ rfl hall hS (fun _ _ h => h) rfl)
  · have e2 : c.tmps.getD 53 undef = .bool true := hI.fact 2 53 rfl (listed hall 2 (by kernel_rfl))
    simp only [Array.getD_eq_getD_getElem?] at e2
    have e4 : c.tmps.getD 55 undef = .bool true := hI.fact 4 55 rfl (listed hall 4 (by kernel_rfl))
    simp only [Array.getD_eq_getD_getElem?] at e4
    go_simp
    exact hK' _ _ (hI.step lbgRa 5 56 rfl (by rw [hsz]; decide) _ _ rfl hall hS (fun _ _ h => h) rfl)
  · have e5 : c.tmps.getD 56 undef = .bool true := hI.fact 5 56 rfl (listed hall 5 (by kernel_rfl))
    simp only [Array.getD_eq_getD_getElem?] at e5
    go_simp
    exact hK' _ _ (hI.step lbgRa 6 57 rfl (by rw [hsz]; decide) _ _ rfl hall hS (fun _ _ h => h) rfl)
  · have g0 : c.tmps[57]? = some (.bool true) := guard_val (hI.fact 6 57 rfl (listed hall 6 (by kernel_rfl)))
    go_simp
    try rw [if_pos (by rw [hd6]; simp only [Option.bind_some, g0])]
    exact hK' _ _ (hI.step lbgRa 7 58 rfl (by rw [hsz]; decide) _ _ rfl hall hS (fun _ _ h => h) rfl)
  · have g0 : c.tmps[57]? = some (.bool true) := guard_val (hI.fact 6 57 rfl (listed hall 6 (by kernel_rfl)))
    have e7 : c.tmps.getD 58 undef = va := hI.fact 7 58 rfl (listed hall 7 (by kernel_rfl))
    simp only [Array.getD_eq_getD_getElem?] at e7
    have hcv := bytes_conv (hA.new hS)
    rw [← hsA.out] at hcv
    obtain ⟨ga, gc, hv⟩ := hA.shape
    rw [hv] at e7 hcv
    go_simp
    try rw [if_pos (by rw [hd6]; simp only [Option.bind_some, g0])]
    exact hK' _ _ (hI.step lbgRa 8 59 rfl (by rw [hsz]; decide) _ _ rfl hall hS (fun _ _ h => h) rfl)
  · have g0 : c.tmps[57]? = some (.bool true) := guard_val (hI.fact 6 57 rfl (listed hall 6 (by kernel_rfl)))
    go_simp
    try rw [if_pos (by rw [hd6]; simp only [Option.bind_some, g0])]
    exact hK' _ _ (hI.step lbgRa 9 60 rfl (by rw [hsz]; decide) _ _ rfl hall hS (fun _ _ h => h) rfl)
  · have g0 : c.tmps[57]? = some (.bool true) := guard_val (hI.fact 6 57 rfl (listed hall 6 (by kernel_rfl)))
    have e9 : c.tmps.getD 60 undef = vb := hI.fact 9 60 rfl (listed hall 9 (by kernel_rfl))
    simp only [Array.getD_eq_getD_getElem?] at e9
    have hcv := bytes_conv (hB.new hS)
    rw [← hsB.out] at hcv
    obtain ⟨ga, gc, hv⟩ := hB.shape
    rw [hv] at e9 hcv
    go_simp
    try rw [if_pos (by rw [hd6]; simp only [Option.bind_some, g0])]
    exact hK' _ _ (hI.step lbgRa 10 61 rfl (by rw [hsz]; decide) _ _ rfl hall hS (fun _ _ h => h) rfl)
  · have g0 : c.tmps[57]? = some (.bool true) := guard_val (hI.fact 6 57 rfl (listed hall 6 (by kernel_rfl)))
    have e8 : c.tmps.getD 59 undef = .string sA := hI.fact 8 59 rfl (listed hall 8 (by kernel_rfl))
    simp only [Array.getD_eq_getD_getElem?] at e8
    have e10 : c.tmps.getD 61 undef = .string sB := hI.fact 10 61 rfl (listed hall 10 (by kernel_rfl))
    simp only [Array.getD_eq_getD_getElem?] at e10
    go_simp
    try rw [if_pos (by rw [hd6]; simp only [Option.bind_some, g0])]
    exact hK' _ _ (hI.step lbgRa 11 62 rfl (by rw [hsz]; decide) _ _ rfl hall hS (fun _ _ h => h) rfl)
  · have g0 : c.tmps[57]? = some (.bool true) := guard_val (hI.fact 6 57 rfl (listed hall 6 (by kernel_rfl)))
    have c0 := (hX.keeps (Keeps.of_fresh hS (fun _ => False)) (fun e => e)).cell 0
    have cl := (hX.keeps (Keeps.of_fresh hS (fun _ => False)) (fun e => e)).lt
    obtain ⟨ga, gc, hv⟩ := hXv
    subst hv
    go_simp
    try rw [if_pos (by rw [hd6]; simp only [Option.bind_some, g0])]
    exact hK' _ _ (hI.step lbgRa 12 63 rfl (by rw [hsz]; decide) _ _ rfl hall hS (fun _ _ h => h) rfl)
  · have g0 : c.tmps[57]? = some (.bool true) := guard_val (hI.fact 6 57 rfl (listed hall 6 (by kernel_rfl)))
    have c0 := (hY.keeps (Keeps.of_fresh hS (fun _ => False)) (fun e => e)).cell 0
    have cl := (hY.keeps (Keeps.of_fresh hS (fun _ => False)) (fun e => e)).lt
    obtain ⟨ga, gc, hv⟩ := hYv
    subst hv
    go_simp
    try rw [if_pos (by rw [hd6]; simp only [Option.bind_some, g0])]
    exact hK' _ _ (hI.step lbgRa 13 64 rfl (by rw [hsz]; decide) _ _ rfl hall hS (fun _ _ h => h) rfl)
  · have g0 : c.tmps[57]? = some (.bool true) := guard_val (hI.fact 6 57 rfl (listed hall 6 (by kernel_rfl)))
    have e12 : c.tmps.getD 63 undef = .agg #[xv] := hI.fact 12 63 rfl (listed hall 12 (by kernel_rfl))
    simp only [Array.getD_eq_getD_getElem?] at e12
    have e13 : c.tmps.getD 64 undef = .agg #[yv] := hI.fact 13 64 rfl (listed hall 13 (by kernel_rfl))
    simp only [Array.getD_eq_getD_getElem?] at e13
    go_simp
    try rw [if_pos (by rw [hd6]; simp only [Option.bind_some, g0])]
    refine (ref3_Same _ _ _ _ T U wx (hXN.new hS) (hYN.new hS)).mono ?_
    rintro e w2 ⟨b, rfl, hbi, hb2⟩
    obtain rfl : b = be := by rw [Bool.eq_iff_iff, hbi, hTU]
    go_simp
    try rw [if_pos (by rw [hd6]; simp only [Option.bind_some, g0])]
    have hS2 : Below W.heap.size W w2 := hS.trans (hb2.mono hS.size)
    exact hK' _ _ (hI.step lbgRa 14 65 rfl (by rw [hsz]; decide) _ _ rfl hall hS2 (fun _ _ h => LbgF.new h) rfl)
  · have g0 : c.tmps[57]? = some (.bool true) := guard_val (hI.fact 6 57 rfl (listed hall 6 (by kernel_rfl)))
    have e11 : c.tmps.getD 62 undef = .bool be := hI.fact 11 62 rfl (listed hall 11 (by kernel_rfl))
    simp only [Array.getD_eq_getD_getElem?] at e11
    have e14 : c.tmps.getD 65 undef = .bool be := hI.fact 14 65 rfl (listed hall 14 (by kernel_rfl))
    simp only [Array.getD_eq_getD_getElem?] at e14
    have hbb : (be == be) = true := by simp
    go_simp
    try rw [if_pos (by rw [hd6]; simp only [Option.bind_some, g0])]
    exact hK' _ _ (hI.step lbgRa 15 66 rfl (by rw [hsz]; decide) _ _ rfl hall hS (fun _ _ h => h) rfl)
  · have e6 : c.tmps.getD 57 undef = .bool true := hI.fact 6 57 rfl (listed hall 6 (by kernel_rfl))
    simp only [Array.getD_eq_getD_getElem?] at e6
    have e15 : c.tmps.getD 66 undef = .bool true := hI.fact 15 66 rfl (listed hall 15 (by kernel_rfl))
    simp only [Array.getD_eq_getD_getElem?] at e15
    go_simp
    exact hK' _ _ (hI.step lbgRa 16 67 rfl (by rw [hsz]; decide) _ _ rfl hall hS (fun _ _ h => h) rfl)
  · have e16 : c.tmps.getD 67 undef = .bool true := hI.fact 16 67 rfl (listed hall 16 (by kernel_rfl))
    simp only [Array.getD_eq_getD_getElem?] at e16
    go_simp
    exact hK' _ _ (hI.step lbgRa 17 68 rfl (by rw [hsz]; decide) _ _ rfl hall hS (fun _ _ h => h) rfl)
  · have g0 : c.tmps[68]? = some (.bool true) := guard_val (hI.fact 17 68 rfl (listed hall 17 (by kernel_rfl)))
    go_simp
    try rw [if_pos (by rw [hd17]; simp only [Option.bind_some, g0])]
    refine (law08_awake wx (hLay.keeps (Keeps.of_fresh hS (fun _ => False)) (fun e => e)) (Nat.lt_of_lt_of_le hW0 hS.size)).mono ?_
    rintro e w2 ⟨rfl, hb2⟩
    go_simp
    try rw [if_pos (by rw [hd17]; simp only [Option.bind_some, g0])]
    have hS2 : Below W.heap.size W w2 := hS.trans (hb2.mono hS.size)
    exact hK' _ _ (hI.step lbgRa 18 69 rfl (by rw [hsz]; decide) _ _ rfl hall hS2 (fun _ _ h => LbgF.new h) rfl)
  · have e17 : c.tmps.getD 68 undef = .bool true := hI.fact 17 68 rfl (listed hall 17 (by kernel_rfl))
    simp only [Array.getD_eq_getD_getElem?] at e17
    have e18 : c.tmps.getD 69 undef = .bool true := hI.fact 18 69 rfl (listed hall 18 (by kernel_rfl))
    simp only [Array.getD_eq_getD_getElem?] at e18
    go_simp
    exact hK' _ _ (hI.step lbgRa 19 70 rfl (by rw [hsz]; decide) _ _ rfl hall hS (fun _ _ h => h) rfl)
  · have e19 : c.tmps.getD 70 undef = .bool true := hI.fact 19 70 rfl (listed hall 19 (by kernel_rfl))
    simp only [Array.getD_eq_getD_getElem?] at e19
    go_simp
    exact hK' _ _ (hI.step lbgRa 20 2 rfl (by rw [hsz]; decide) _ _ rfl hall hS (fun _ _ h => h) rfl)
end Go.Proofs.YtofhcgbihonckaaGreatDoor

namespace Go.Proofs.YtofhcgbihonckaaGreatDoor
open Go.RowKit Go.ChangeMaps

theorem enc_inj {T U : List NodeT} (h1 : decT (encodeT T) = (T, 0, 0)) (h2 : decT (encodeT U) = (U, 0, 0)) : ((encodeT T).toArray.toList == (encodeT U).toArray.toList) = decide (T = U) := by
  by_cases h : T = U
  · subst h; simp
  · rw [decide_eq_false h, beq_eq_false_iff_ne]
    intro e
    have e2 : encodeT T = encodeT U := by simpa using e
    rw [e2, h2] at h1
    exact h (by cases h1; rfl)
/-- Where the law stands behind its two trees. -/
def DifS (w : World) (X Y base tb : Nat) (v : Value) (T : List NodeT) (wx : World) : Prop :=
  ∃ u U, Holds wx X #[v] 25 ∧ Holds wx Y #[u] 25 ∧ TreeRow wx base v T ∧ TreeRow wx base u U ∧ checkT U = 0 ∧ (U.length : Int) ≤ 5 + 1 ∧ (bulkT U : Int) ≤ 440 * 5 ∧ Tape w.heap.size wx tb ∧ Below w.heap.size w wx
set_option maxRecDepth 100000 in
set_option maxHeartbeats 8000000 in
theorem blobDiffers_walk (a : Option Addr) (len cap : Nat) (w : World) (hi : IntsIn w a len) (hlc : len ≤ cap) (hcap : cap ≤ maxLen) (hnil : a = none → len = 0 ∧ cap = 0) (lay : Lay0 w) :
    Calls Tryz.prog 8 #[.slice a len cap] w fun e w' => e = .returned (.bool true) ∧ Below w.heap.size w w' := by
  have HLAY := Lib.hid lay
  have hw0 : 0 < w.heap.size := by obtain ⟨m, hm⟩ := lay; exact Nat.lt_of_le_of_lt (Nat.zero_le _) (World.block_lt_of_cell? w _ hm)
  clear lay
  go_enter Tryz.func8, Tryz.ntmps8
  go_wp2_with fail
  refine (mk_New a len cap _ hi hlc hcap hnil).mono ?_
  rintro e w1 ⟨tb, rfl, hT1, hb1⟩
  clear hi hnil
  have hB := hT1.1
  go_wp2_with fail
  refine (grow_TreeB w.heap.size tb 4 _ hT1 (by omega) (by omega)).mono ?_
  rintro e w2 ⟨v, T, rfl, hT, hc, hl, hbk, ht2, hk2⟩
  obtain ⟨va, vc, rfl⟩ := hT.slice
  go_wp2_with fail
  refine (grow_TreeB w.heap.size tb 4 _ ht2 (by omega) (by omega)).mono ?_
  rintro e w3 ⟨u, U, rfl, hU, hcU, hlU, hbkU, ht3, hk3⟩
  obtain ⟨ua, uc, rfl⟩ := hU.slice
  have hb3 : Below w.heap.size w w3 := hb1.trans ((hk2.trans hk3 (fun _ _ e => e)).below hb1.size (fun i hi e => by omega))
  have hs12 := hk2.size
  have hT3 := hT.tape ht2 hk3
  have hU3 := hU.base hs12
  obtain ⟨X, hXe⟩ : ∃ X, X = w3.heap.size := ⟨_, rfl⟩
  obtain ⟨base, hbase⟩ : ∃ base, base = w1.heap.size := ⟨_, rfl⟩
  rw [← hbase] at hT3 hU3
  have hwb : w.heap.size ≤ base := by rw [hbase]; exact hb1.size
  have htb1 := hT1.lt
  have htbb : tb < base := by rw [hbase]; exact hT1.lt
  have hbx : base ≤ X := by rw [hbase, hXe]; have := hk3.size; omega
  have hH1 := (Holds.newAt (w := w3) (B := X) hXe.symm #[.slice va T.length vc] 25).alloc (.cells #[.slice ua U.length uc] 25)
  have hH2 := Holds.newAt (w := w3.alloc (.cells #[.slice va T.length vc] 25)) (B := X + 1) (by simp [hXe]) #[.slice ua U.length uc] 25
  have hb34 : Below w3.heap.size w3 ((w3.alloc (.cells #[.slice va T.length vc] 25)).alloc (.cells #[.slice ua U.length uc] 25)) := ((Below.refl _ _).alloc (Nat.le_refl _) _).alloc (by simp) _
  have HS := Lib.hid (show DifS w X (X + 1) base tb (.slice va T.length vc) T ((w3.alloc (.cells #[.slice va T.length vc] 25)).alloc (.cells #[.slice ua U.length uc] 25)) from
    ⟨_, U, hH1, hH2, hT3.new hb34, hU3.new hb34, hcU, by omega, by omega, ht3.new hb34, hb3.trans (hb34.mono hb3.size)⟩)
  have hT40 := ht3.new hb34
  have HC := Lib.hid hc
  have hl1 := (limits_len (check_limits hc)).1
  have HXE := Lib.hid hXe
  clear hT hU hT3 hU3 hT1 hb1 ht2 ht3 hk2 hk3 hb3 hH1 hH2 hb34 hcU hlU hbkU hs12 hbase hc htb1 hXe
  go_wp2_with fail
  rw [← HXE.out]
  generalize (w3.alloc (.cells #[.slice va T.length vc] 25)).alloc (.cells #[.slice ua U.length uc] 25) = w4 at *
  refine (mk_N w.heap.size tb 2 _ hT40 (by omega) (by omega)).mono ?_
  rintro e w5 ⟨r, rfl, hr1, hr2, ht5, k5⟩
  have hS5 : DifS w X (X + 1) base tb (.slice va T.length vc) T w5 := by
    obtain ⟨u', U', g1, g2, g3, g4, g5, g6, g7, g8, g9⟩ := HS.out
    exact ⟨u', U', g1.keeps k5 (by omega), g2.keeps k5 (by omega), g3.tape g8 k5, g4.tape g8 k5, g5, g6, g7, ht5, g9.trans (k5.below g9.size (fun i hi e => by have e2 : i = tb := e; omega))⟩
  clear hT40 ht5 k5 HS
  go_upto_if 20 with fail
  go_cut [] (fun wx => DifS w X (X + 1) base tb (.slice va T.length vc) T wx)
  case first =>
    by_cases hr0 : r = 0
    · subst hr0
      obtain ⟨u', U', g1, g2, g3, g4, g5, g6, g7, g8, g9⟩ := hS5
      have c0 := g1.cell 0
      have cl := g1.lt
      have d0 := g2.cell 0
      have d1 := g2.free 0
      have dl := g2.lt
      have gs : w.heap.size ≤ w5.heap.size := g9.size
      have kz : Keeps (· = X + 1) w5 (w5.setCell ⟨X + 1, 0, none⟩ (.slice va T.length vc)) := (Keeps.refl (· = X + 1) w5).setCell (p := ⟨X + 1, 0, none⟩) (Or.inr rfl) _
      have h1 := g1.keeps kz (by omega)
      have h2 := g2.set 0 (.slice va T.length vc)
      have h3 := g3.set g2 (by decide) (by decide) 0 (.slice va T.length vc)
      have h8 : Tape w.heap.size (w5.setCell ⟨X + 1, 0, none⟩ (.slice va T.length vc)) tb := g8.keeps kz (fun i e => by subst e; exact ⟨by omega, by omega⟩)
      have h9 : Below w.heap.size w (w5.setCell ⟨X + 1, 0, none⟩ (.slice va T.length vc)) := g9.setCell (p := ⟨X + 1, 0, none⟩) (by show w.heap.size ≤ X + 1; omega) _
      have hb2 := h3.base (Nat.le_refl base)
      obtain ⟨y0, hy0⟩ : ∃ y0, y0 = u' := ⟨_, rfl⟩
      have hcz : w5.cell? ⟨X + 1, 0, none⟩ = some u' := d0
      clear g1 g2 g3 g4 g5 g6 g7 g8 g9 kz d0 hb2 hy0
      have HH1 := Lib.hid h1; have HH2 := Lib.hid h2; have HH3 := Lib.hid h3; have HH8 := Lib.hid h8; have HH9 := Lib.hid h9
      clear h1 h2 h3 h8 h9
      go_wp2_with fail
      generalize w5.setCell ⟨X + 1, 0, none⟩ (.slice va T.length vc) = w6 at *
      have hS0 : GsS w.heap.size tb base X (.slice va T.length vc) T w6 w6.drew := ⟨HH8.out.keeps ((Keeps.refl (fun _ => False) _).drew) (fun _ e => e.elim), HH3.out, HH1.out, (Keeps.refl _ _).drew⟩
      refine wp_region_any (by kernel_rfl) ?_
      refine wpAny_ops (ops' := lbfOps) (by kernel_rfl) ?_
      refine lbf_region5 w.heap.size tb base X (.slice va T.length vc) T w6 _ _ rfl HH1.out.lt HH8.out.lt HH9.out.size (by have := HH1.out.lt; omega) (by omega) hl1 (by omega) rfl rfl (by exact hS0) ?_
      intro c w7 sv er T2 N hsb hS2 e8 hN e9 hr2' hst hNq
      obtain ⟨y6, y7, y22, y23, y24, y25, y26, y27, y28, y29, y30, y31, y32, y33, y34, y35, y36, y37, hc⟩ := hsb.ex [6, 7, 22, 23, 24, 25, 26, 27, 28, 29, 30, 31, 32, 33, 34, 35, 36, 37] (by kernel_rfl)
      subst hc
      simp only [List.setIfInBounds_toArray, List.set_cons_zero, List.set_cons_succ] at e8 e9 ⊢
      have e8' : y6 = .pointer (some ⟨N, 0, none⟩) := e8
      have e9' : y7 = .int .i64 er := e9
      subst e8'
      subst e9'
      obtain ⟨sa, sc, rfl⟩ := hr2'.slice
      have hY7 := HH2.out.keeps hS2.2.2.2 (show ¬ X + 1 = tb by omega)
      have hB7 : Below w.heap.size w w7 := HH9.out.trans (hS2.2.2.2.below HH9.out.size (fun i hi e => by have e2 : i = tb := e; omega))
      have y0 := hY7.cell 0
      have y1 := hY7.free 0
      have yl := hY7.lt
      have n0 := hN.cell 0
      have nl := hN.lt
      by_cases he : er = 0
      · subst he
        obtain ⟨s, nm, vl, hnm, hvl, hq2, hT2⟩ := hst rfl
        have hbk2 := bulk_set hq2
        obtain ⟨hc2, hl3⟩ := set_valid hq2
        rw [← hT2] at hc2 hl3 hbk2
        have kz : Keeps (· = X + 1) w7 (w7.setCell ⟨X + 1, 0, none⟩ (.slice sa T2.length sc)) := (Keeps.refl (· = X + 1) w7).setCell (p := ⟨X + 1, 0, none⟩) (Or.inr rfl) _
        have HF := Lib.hid (show DifS w X (X + 1) base tb (.slice va T.length vc) T (w7.setCell ⟨X + 1, 0, none⟩ (.slice sa T2.length sc)) from
          ⟨_, T2, hS2.2.2.1.keeps kz (by omega), hY7.set 0 _, hS2.2.1.set hY7 (by decide) (by decide) 0 _, hr2'.set hY7 (by decide) (by decide) 0 _, hc2, by omega, by omega, hS2.1.keeps kz (fun i e => by subst e; exact ⟨by omega, by omega⟩), hB7.setCell (p := ⟨X + 1, 0, none⟩) (by show w.heap.size ≤ X + 1; omega) _⟩)
        clear hS2 hr2' hst hN hsb e8 e9 hY7 hB7 kz hT2 hq2 hc2 hl3 hbk2
        go_wp2_with fail
        go_meet
        case rel => exact HF.out
      · have he' : (er == 0) = false := by simpa using he
        have HF := Lib.hid (show DifS w X (X + 1) base tb (.slice va T.length vc) T w7 from
          ⟨_, T, hS2.2.2.1, hY7, hS2.2.1, hS2.2.1, HC.out, by omega, by omega, hS2.1, hB7⟩)
        clear hS2 hr2' hst hN hsb e8 e9 hY7 hB7 he
        go_wp2_with fail
        go_meet
        case rel => exact HF.out
    · have hr0' : (r == 0) = false := by simpa using hr0
      have HF := Lib.hid hS5
      clear hS5 hr0
      go_wp2_with fail
      go_meet
      case rel => exact HF.out
  case rest =>
    obtain ⟨u', U', g1, g2, g3, g4, g5, g6, g7, g8, g9⟩ := hcut
    obtain ⟨ya, yc, rfl⟩ := g4.slice
    obtain ⟨hL, hE1, hE2, hL44, hDE⟩ := enc_grown (n := 5) HC.out (by omega) (by omega) (by omega)
    obtain ⟨hLU, hU1, hU2, hU44, hDU⟩ := enc_grown g5 g6 g7 (by omega)
    have henc := blob_Encode _ _ T _ g3.in
    unfold EncPost at henc
    rw [hE1, hE2] at henc
    have HENC := Lib.hid henc
    have hinj := enc_inj hDE hDU
    have c0 := g1.cell 0
    have cl := g1.lt
    have G2 := Lib.hid g2
    have G1 := Lib.hid g1
    have G3 := Lib.hid g3
    have G4 := Lib.hid g4
    have G9 := Lib.hid g9
    have HINJ := Lib.hid hinj
    clear g1 g2 g3 g4 g5 g6 g7 g8 g9 henc hinj hDE hDU hE1 hE2
    go_wp2_with fail
    refine (by exact HENC.out : Calls _ _ _ _ _).mono ?_
    rintro e w8 ⟨ea, rfl, hA8, hb8⟩
    have B8 := Lib.hid (G9.out.trans (hb8.mono G9.out.size))
    have hY8 := G2.out.keeps (Keeps.of_fresh hb8 (fun _ => False)) (fun e => e)
    have hX8 := G1.out.keeps (Keeps.of_fresh hb8 (fun _ => False)) (fun e => e)
    have hU8 := G4.out.new hb8
    have hT8 := G3.out.new hb8
    have henc := blob_Encode _ _ U' _ hU8.in
    unfold EncPost at henc
    rw [hU1, hU2] at henc
    have HENC2 := Lib.hid henc
    have y0 := hY8.cell 0
    have yl := hY8.lt
    have HY8 := Lib.hid hY8
    have HX8 := Lib.hid hX8
    have HU8 := Lib.hid hU8
    have HT8 := Lib.hid hT8
    have HA8 := Lib.hid hA8
    obtain ⟨aa, ac, rfl⟩ := hA8.shape
    clear hY8 hX8 hU8 hT8 hA8 henc hU1 hU2 hb8
    go_wp2_with fail
    refine (by exact HENC2.out : Calls _ _ _ _ _).mono ?_
    rintro e w9 ⟨eb, rfl, hB9, hb9⟩
    have B9 := Lib.hid (B8.out.trans (hb9.mono B8.out.size))
    obtain ⟨ba, bc, rfl⟩ := hB9.shape
    have HB9 := Lib.hid hB9
    have HY9 := Lib.hid (HY8.out.keeps (Keeps.of_fresh hb9 (fun _ => False)) (fun e => e))
    have HX9 := Lib.hid (HX8.out.keeps (Keeps.of_fresh hb9 (fun _ => False)) (fun e => e))
    have HU9 := Lib.hid (HU8.out.new hb9)
    have HT9 := Lib.hid (HT8.out.new hb9)
    have HA9 := Lib.hid (HA8.out.new hb9)
    clear hB9 hb9 y0 yl
    go_wp2_with fail
    refine wp_region_any (by kernel_rfl) ?_
    refine wpAny_ops (ops' := lbgOps) (by kernel_rfl) ?_
    refine lbg_region X (X + 1) _ _ _ _ (.slice va T.length vc) (.slice ya U'.length yc) (encodeT T) (encodeT U') ⟨(encodeT T).toArray⟩ ⟨(encodeT U').toArray⟩ (decide (T = U')) T U' w9 _ _ rfl _ _ HX9.out HY9.out HT9.out.in HU9.out.in ⟨_, _, rfl⟩ ⟨_, _, rfl⟩ HA9.out HB9.out (Lib.hid rfl) (Lib.hid rfl)
      (by rw [ByteArray.toList_eq, ByteArray.toList_eq]; exact HINJ.out) (by rw [decide_eq_true_iff]) (HLAY.out.keeps (Keeps.of_fresh B9.out (fun _ => False)) (fun e => e)) (Nat.lt_of_lt_of_le hw0 B9.out.size) rfl rfl rfl rfl rfl rfl ?_ ?_
    · exact ((Keeps.refl (fun _ => False) w9).drew).below (Nat.le_refl _) (fun _ _ e => e)
    intro c w10 hsb hb10 e2
    obtain ⟨y2, y51, y52, y53, y54, y55, y56, y57, y58, y59, y60, y61, y62, y63, y64, y65, y66, y67, y68, y69, y70, hc⟩ := hsb.ex [2, 51, 52, 53, 54, 55, 56, 57, 58, 59, 60, 61, 62, 63, 64, 65, 66, 67, 68, 69, 70] (by kernel_rfl)
    subst hc
    simp only [List.setIfInBounds_toArray, List.set_cons_zero, List.set_cons_succ] at e2 ⊢
    have e2' : y2 = .bool true := e2
    subst e2'
    have HF := Lib.hid (B9.out.trans (hb10.mono B9.out.size))
    clear e2 hsb hb10
    go_wp2_with fail
    go_ret
    exact ⟨rfl, HF.out⟩
end Go.Proofs.YtofhcgbihonckaaGreatDoor
