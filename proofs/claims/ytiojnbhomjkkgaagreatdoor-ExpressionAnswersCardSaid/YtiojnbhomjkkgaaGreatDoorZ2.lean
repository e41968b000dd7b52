/- The reader of package expression in memory; its sign and expect. | The reader of package expression: its fields, sign, expect. | bringupref02: the parser in memory; sign, take, truth. | bringupref02: apply (printed by grfe.py). | The reader of package expression: primary. | The reader of package expression: primary at a number, 0. | The reader of package expression: primary at a number, 1. | The reader of package expression: primary at a number, 2. | The reader of package expression: primary. -/
import Derived.Test.YtiojnbhomjkkgaaGreatDoorZ1
import Derived.BigQuiet

set_option linter.unusedVariables false
set_option linter.unusedSimpArgs false
set_option linter.unusedSectionVars false

namespace Go.Proofs.YtiojnbhomjkkgaaGreatDoor
open Go.RowKit

section
variable {L : List (Int × ByteArray × Int)} {d i k : Nat} {v : Int}
theorem rd_par_none (hs : sgnT L i = ⟨#[40]⟩) (h : Rd L .whole (d + 1) (i + 1) none) : Rd L .prim d i none := by
  obtain ⟨n, h⟩ := h; exact ⟨n + 1, by rw [evT, if_pos hs, h]; rfl⟩
theorem rd_par_bad {q : Int × Nat × Bool × Bool × Bool} (hs : sgnT L i = ⟨#[40]⟩) (h : Rd L .whole (d + 1) (i + 1) (some q)) (h2 : sgnT L q.2.1 ≠ ⟨#[41]⟩) : Rd L .prim d i none := by
  obtain ⟨n, h⟩ := h; exact ⟨n + 1, by rw [evT, if_pos hs, h]; show some (if _ then _ else _) = _; rw [if_neg h2]⟩
theorem rd_par {q : Int × Nat × Bool × Bool × Bool} (hs : sgnT L i = ⟨#[40]⟩) (h : Rd L .whole (d + 1) (i + 1) (some q)) (h2 : sgnT L q.2.1 = ⟨#[41]⟩) : Rd L .prim d i (some (q.1, q.2.1 + 1, q.2.2)) := by
  obtain ⟨n, h⟩ := h; exact ⟨n + 1, by rw [evT, if_pos hs, h]; show some (if _ then _ else _) = _; rw [if_pos h2]⟩
theorem rd_num {t : Int × ByteArray × Int} (hs : sgnT L i ≠ ⟨#[40]⟩) (h : L[i]? = some t) (h2 : t.1 = 2) : Rd L .prim d i (some (t.2.2 % 4294967296, i + 1, decide (8 < d), decide (t.2.2 < 0) || decide (4294967295 < t.2.2), false)) :=
  ⟨1, by rw [evT, if_neg hs, h]; show some (if _ then _ else _) = _; rw [if_pos h2]⟩
theorem rd_nonum (hs : sgnT L i ≠ ⟨#[40]⟩) (h : ∀ t, L[i]? = some t → t.1 ≠ 2) : Rd L .prim d i none :=
  ⟨1, by
    rw [evT, if_neg hs]
    cases e : L[i]? with
    | none => rfl
    | some t => show some (if _ then _ else _) = _; rw [if_neg (h t e)]⟩
theorem rd_un {r : Option (Int × Nat × Bool × Bool × Bool)} (hs : unB (sgnT L i) = true) (h : Rd L .opnd d (i + 1) r) : Rd L .opnd d i (r.map fun q => (unT (sgnT L i) q.1, q.2)) := by
  obtain ⟨n, h⟩ := h; exact ⟨n + 1, by rw [evT, if_pos hs, h]; rfl⟩
theorem rd_op {r : Option (Int × Nat × Bool × Bool × Bool)} (hs : unB (sgnT L i) = false) (h : Rd L .prim d i r) : Rd L .opnd d i r := by
  obtain ⟨n, h⟩ := h; exact ⟨n + 1, by rw [evT, if_neg (by rw [hs]; simp), h]⟩
theorem rd_lvl0 {r : Option (Int × Nat × Bool × Bool × Bool)} (h : Rd L .opnd d i r) : Rd L (.lvl 0) d i r := by
  obtain ⟨n, h⟩ := h; exact ⟨n + 1, by rw [evT, h]⟩
theorem rd_lvl_none (h : Rd L (.lvl k) d i none) : Rd L (.lvl (k + 1)) d i none := by
  obtain ⟨n, h⟩ := h; exact ⟨n + 1, by rw [evT, h]; rfl⟩
theorem rd_lvl {q : Int × Nat × Bool × Bool × Bool} {r : Option (Int × Nat × Bool × Bool × Bool)} (h : Rd L (.lvl k) d i (some q)) (h2 : Rd L (.loop k q.1) d q.2.1 r) : Rd L (.lvl (k + 1)) d i (r.map fun q2 => (q2.1, q2.2.1, orF q.2.2 q2.2.2)) := by
  obtain ⟨n, h⟩ := h; obtain ⟨m, h2⟩ := h2
  exact ⟨max n m + 1, by rw [evT, ev_le L (Nat.le_max_left n m) h]; show Option.map _ _ = _; rw [ev_le L (Nat.le_max_right n m) h2]; rfl⟩
theorem rd_loop_end (h : rowN k (sgnT L i) = none) : Rd L (.loop k v) d i (some (v, i, noF)) := ⟨1, by rw [evT, h]⟩
theorem rd_loop_none {f : Nat} (hr : rowN k (sgnT L i) = some f) (h : Rd L (.lvl k) d (i + 1) none) : Rd L (.loop k v) d i none := by
  obtain ⟨n, h⟩ := h; exact ⟨n + 1, by rw [evT, hr]; show Option.bind _ _ = _; rw [h]; rfl⟩
theorem rd_loop {f : Nat} {q : Int × Nat × Bool × Bool × Bool} {r : Option (Int × Nat × Bool × Bool × Bool)} (hr : rowN k (sgnT L i) = some f) (h : Rd L (.lvl k) d (i + 1) (some q))
    (h2 : Rd L (.loop k (appT f v (if divB f q.1 = true then 1 else q.1))) d q.2.1 r) : Rd L (.loop k v) d i (r.map fun q2 => (q2.1, q2.2.1, orF (orF q.2.2 (false, false, divB f q.1)) q2.2.2)) := by
  obtain ⟨n, h⟩ := h; obtain ⟨m, h2⟩ := h2
  exact ⟨max n m + 1, by rw [evT, hr]; show Option.bind _ _ = _; rw [ev_le L (Nat.le_max_left n m) h]; show Option.map _ _ = _; rw [ev_le L (Nat.le_max_right n m) h2]; rfl⟩
theorem rd_whole_none (h : Rd L (.lvl 10) d i none) : Rd L .whole d i none := by
  obtain ⟨n, h⟩ := h; exact ⟨n + 1, by rw [evT, h]; rfl⟩
theorem rd_whole {q : Int × Nat × Bool × Bool × Bool} (h : Rd L (.lvl 10) d i (some q)) (hs : sgnT L q.2.1 ≠ ⟨#[63]⟩) : Rd L .whole d i (some q) := by
  obtain ⟨n, h⟩ := h; exact ⟨n + 1, by rw [evT, h]; show (if _ then _ else _) = _; rw [if_neg hs]⟩
theorem rd_if_none {q : Int × Nat × Bool × Bool × Bool} (h : Rd L (.lvl 10) d i (some q)) (hs : sgnT L q.2.1 = ⟨#[63]⟩) (h2 : Rd L .whole d (q.2.1 + 1) none) : Rd L .whole d i none := by
  obtain ⟨n, h⟩ := h; obtain ⟨m, h2⟩ := h2
  exact ⟨max n m + 1, by rw [evT, ev_le L (Nat.le_max_left n m) h]; show (if _ then _ else _) = _; rw [if_pos hs, ev_le L (Nat.le_max_right n m) h2]; rfl⟩
theorem rd_if_bad {q y : Int × Nat × Bool × Bool × Bool} (h : Rd L (.lvl 10) d i (some q)) (hs : sgnT L q.2.1 = ⟨#[63]⟩) (h2 : Rd L .whole d (q.2.1 + 1) (some y)) (hc : sgnT L y.2.1 ≠ ⟨#[58]⟩) : Rd L .whole d i none := by
  obtain ⟨n, h⟩ := h; obtain ⟨m, h2⟩ := h2
  exact ⟨max n m + 1, by rw [evT, ev_le L (Nat.le_max_left n m) h]; show (if _ then _ else _) = _; rw [if_pos hs, ev_le L (Nat.le_max_right n m) h2]; show (if _ then _ else _) = _; rw [if_neg hc]⟩
theorem rd_if {q y : Int × Nat × Bool × Bool × Bool} {r : Option (Int × Nat × Bool × Bool × Bool)} (h : Rd L (.lvl 10) d i (some q)) (hs : sgnT L q.2.1 = ⟨#[63]⟩) (h2 : Rd L .whole d (q.2.1 + 1) (some y)) (hc : sgnT L y.2.1 = ⟨#[58]⟩)
    (h3 : Rd L .whole d (y.2.1 + 1) r) : Rd L .whole d i (r.map fun z => (if q.1 = 0 then z.1 else y.1, z.2.1, orF (orF q.2.2 y.2.2) z.2.2)) := by
  obtain ⟨n, h⟩ := h; obtain ⟨m, h2⟩ := h2; obtain ⟨o, h3⟩ := h3
  have a1 := ev_le L (Nat.le_trans (Nat.le_max_left n m) (Nat.le_max_left (max n m) o)) h
  have a2 := ev_le L (Nat.le_trans (Nat.le_max_right n m) (Nat.le_max_left (max n m) o)) h2
  have a3 := ev_le L (Nat.le_max_right (max n m) o) h3
  exact ⟨max (max n m) o + 1, by rw [evT, a1]; show (if _ then _ else _) = _; rw [if_pos hs, a2]; show (if _ then _ else _) = _; rw [if_pos hc, a3]; rfl⟩
end

/-- A slice of tokens in memory, in a block of R. -/
def TokAt (R : Nat → Prop) (w : World) (v : Value) (L : List (Int × ByteArray × Int)) : Prop :=
  ∃ (a : Option Addr) (cap : Nat), v = .slice a L.length cap ∧ (∀ t ∈ L, t.2.1.size ≤ maxLen) ∧ (0 < L.length → ∃ g o, a = some ⟨g, o, none⟩ ∧ R g ∧ ∀ (j : Nat) (h : j < L.length),
    w.cell? ⟨g, o + j * 6, none⟩ = some (.int .i64 L[j].1) ∧ w.cell? ⟨g, o + j * 6 + 1, none⟩ = some (.string L[j].2.1) ∧ w.cell? ⟨g, o + j * 6 + 2, none⟩ = some (.int .i64 L[j].2.2))
theorem TokAt.keeps {R S : Nat → Prop} {w w' : World} {v : Value} {L : List (Int × ByteArray × Int)} (h : TokAt R w v L) (k : Keeps S w w') (hs : ∀ g, R g → ¬ S g) : TokAt R w' v L := by
  obtain ⟨a, cap, e, h1, h2⟩ := h
  refine ⟨a, cap, e, h1, fun h0 => ?_⟩
  obtain ⟨g, o, ea, hR, hc⟩ := h2 h0
  refine ⟨g, o, ea, hR, fun j hj => ?_⟩
  obtain ⟨c0, c1, c2⟩ := hc j hj
  have hlt := World.block_lt_of_cell? w _ c0
  exact ⟨(k.cell (p := ⟨g, o + j * 6, none⟩) hlt (hs g hR)).trans c0, (k.cell (p := ⟨g, o + j * 6 + 1, none⟩) hlt (hs g hR)).trans c1, (k.cell (p := ⟨g, o + j * 6 + 2, none⟩) hlt (hs g hR)).trans c2⟩
theorem TableAt.keeps {S : Nat → Prop} {w w' : World} {g : Nat} {bs : List Nat} (h : TableAt w g bs) (k : Keeps S w w') (hg : ¬ S g) (hb : ∀ b ∈ bs, ¬ S b) : TableAt w' g bs := by
  obtain ⟨h1, h2, h3⟩ := h
  exact ⟨h1.keeps k hg, h2, fun i hi => (h3 i hi).block (k.block _ (h3 i hi).lt (hb _ (List.getElem_mem hi)))⟩
/-- The reader at block r: its place, its depth, and what it has noted. -/
def RdrAt (w : World) (r : Nat) (L : List (Int × ByteArray × Int)) (i d : Nat) (syn dp gr dv : Bool) : Prop :=
  ∃ lv g bs, Holds w r #[lv, .slice (some ⟨g, 0, none⟩) 10 10, .int .i64 i, .int .i64 d, .bool syn, .bool dp, .bool gr, .bool dv] 132 ∧ TokAt (fun x => x ≠ r) w lv L ∧ TableAt w g bs ∧ g ≠ r ∧ (∀ b ∈ bs, b ≠ r) ∧ i ≤ L.length ∧ L.length ≤ 1000000000 ∧ d ≤ i
theorem RdrAt.keeps {w w' : World} {r : Nat} {L : List (Int × ByteArray × Int)} {i d : Nat} {syn dp gr dv : Bool} (h : RdrAt w r L i d syn dp gr dv) (k : Keeps (fun _ => False) w w') : RdrAt w' r L i d syn dp gr dv := by
  obtain ⟨lv, g, bs, h1, h2, h3, h4⟩ := h
  exact ⟨lv, g, bs, h1.keeps k (fun e => e), h2.keeps k (fun _ _ e => e), h3.keeps k (fun e => e) (fun _ _ e => e), h4⟩
end Go.Proofs.YtiojnbhomjkkgaaGreatDoor

namespace Go.Proofs.YtiojnbhomjkkgaaGreatDoor
open Go.RowKit

section
variable {w : World} {r : Nat} {L : List (Int × ByteArray × Int)} {i d : Nat} {syn dp gr dv : Bool}
theorem RdrAt.put (h : RdrAt w r L i d syn dp gr dv) (o : Nat) (x : Value) {i' d' : Nat} {syn' dp' gr' dv' : Bool} (hi : i' ≤ L.length) (hd : d' ≤ i')
    (he : ∀ lv rv : Value, (#[lv, rv, .int .i64 i, .int .i64 d, .bool syn, .bool dp, .bool gr, .bool dv] : Array Value).setIfInBounds o x = #[lv, rv, .int .i64 i', .int .i64 d', .bool syn', .bool dp', .bool gr', .bool dv']) :
    RdrAt (w.setCell ⟨r, o, none⟩ x) r L i' d' syn' dp' gr' dv' ∧ Keeps (fun b => b = r) w (w.setCell ⟨r, o, none⟩ x) := by
  obtain ⟨lv, g, bs, h1, h2, h3, h4, h5, _, h7, _⟩ := h
  have k := (Keeps.refl (fun b => b = r) w).setCell (p := ⟨r, o, none⟩) (.inr rfl) x
  exact ⟨⟨lv, g, bs, by rw [← he]; exact h1.set o x, h2.keeps k (fun _ hg e => hg e), h3.keeps k h4 h5, h4, h5, hi, h7, hd⟩, k⟩
theorem RdrAt.next (h : RdrAt w r L i d syn dp gr dv) (hi : i + 1 ≤ L.length) : RdrAt (w.setCell ⟨r, 2, none⟩ (.int .i64 ((i + 1 : Nat) : Int))) r L (i + 1) d syn dp gr dv ∧ Keeps (fun b => b = r) w (w.setCell ⟨r, 2, none⟩ (.int .i64 ((i + 1 : Nat) : Int))) :=
  h.put 2 _ hi (by obtain ⟨_, _, _, _, _, _, _, _, _, _, hd⟩ := h; omega) (fun _ _ => rfl)
end
theorem text_ne {a b : ByteArray} (h : a ≠ b) : (a.toList == b.toList) = false := by
  rw [beq_eq_false_iff_ne, ByteArray.toList_eq, ByteArray.toList_eq]
  intro e; exact h (by apply ByteArray.ext; exact Array.toList_inj.1 e)
/-- What sign returns. -/
def SignPost (r : Nat) (L : List (Int × ByteArray × Int)) (i d : Nat) (syn dp gr dv : Bool) (w : World) (e : Ending) (w' : World) : Prop :=
  e = .returned (.string (if syn = true then ⟨#[]⟩ else sgnT L i)) ∧ RdrAt w' r L i d syn dp gr dv ∧ Keeps (fun _ => False) w w'
theorem keeps_draws (w : World) (n : Nat) : Keeps (fun _ => False) w (w.drewN n) := (Keeps.refl _ w).drewN n

set_option maxRecDepth 100000 in
set_option maxHeartbeats 4000000 in
theorem exp_sign (r : Nat) (L : List (Int × ByteArray × Int)) (i d : Nat) (syn dp gr dv : Bool) (w : World) (h : RdrAt w r L i d syn dp gr dv) :
    Calls Tryz.prog 90 #[.pointer (some ⟨r, 0, none⟩)] w (SignPost r L i d syn dp gr dv w) := by
  have HR := Lib.hid h
  obtain ⟨lv, g, bs, hH, ⟨a, cap, rfl, hsz, hTk⟩, _, _, _, hiL, hLb, _⟩ := h
  have HTK := Lib.hid hTk
  clear hTk hsz
  have c0 := hH.cell 0
  have c2 := hH.cell 2
  have c4 := hH.cell 4
  have cl := hH.lt
  cases syn with
  | true =>
    go_enter Tryz.func90, Tryz.ntmps90
    go_wp2_with fail
    go_quiet (fail)
    go_wp2_with fail
    go_ret
    exact ⟨rfl, HR.out.keeps (keeps_draws _ _), keeps_draws _ _⟩
  | false =>
    by_cases hlt : i < L.length
    · have hltI : (i : Int) < (L.length : Int) := by omega
      have hltI2 : ¬ ((L.length : Int) ≤ (i : Int)) := by omega
      obtain ⟨gt, ot, rfl, _, hc⟩ := HTK.out (by omega)
      obtain ⟨d0, d1, _⟩ := hc i hlt
      have hs : sgnT L i = if L[i].1 = 4 then L[i].2.1 else ⟨#[]⟩ := by unfold sgnT; rw [List.getElem?_eq_getElem hlt]
      have HS := Lib.hid hs
      clear hc hs
      generalize L[i].1 = kd at *
      generalize L[i].2.1 = tx at *
      by_cases hk : kd = 4
      · subst hk
        have hfin := Lib.hid (show sgnT L i = tx from by rw [HS.out]; rfl)
        go_enter Tryz.func90, Tryz.ntmps90
        go_wp2_with fail
        go_quiet (fail)
        go_wp2_with fail
        go_quiet (fail)
        go_wp2_with fail
        go_ret
        exact ⟨by rw [hfin.out]; rfl, (HR.out.keeps (keeps_draws _ _)).keeps (keeps_draws _ _), (keeps_draws _ _).drewN _⟩
      · have hkb : (kd != 4) = true := by simpa using hk
        have hfin := Lib.hid (show sgnT L i = ⟨#[]⟩ from by rw [HS.out, if_neg hk])
        clear hk
        go_enter Tryz.func90, Tryz.ntmps90
        go_wp2_with fail
        go_quiet (fail)
        go_wp2_with fail
        go_ret
        exact ⟨by rw [hfin.out]; rfl, HR.out.keeps (keeps_draws _ _), keeps_draws _ _⟩
    · have hltI : ¬ (i : Int) < (L.length : Int) := by omega
      have hltI2 : (L.length : Int) ≤ (i : Int) := by omega
      have hfin := Lib.hid (show sgnT L i = ⟨#[]⟩ from by unfold sgnT; rw [List.getElem?_eq_none (by omega)])
      go_enter Tryz.func90, Tryz.ntmps90
      go_wp2_with fail
      go_quiet (fail)
      go_wp2_with fail
      go_ret
      exact ⟨by rw [hfin.out]; rfl, HR.out.keeps (keeps_draws _ _), keeps_draws _ _⟩

/-- What expect leaves: one place on, or the form noted as wrong. -/
def ExpectPost (r : Nat) (L : List (Int × ByteArray × Int)) (i d : Nat) (syn dp gr dv : Bool) (s : ByteArray) (w : World) (e : Ending) (w' : World) : Prop :=
  e = .returned (.tuple #[]) ∧ Keeps (fun b => b = r) w w' ∧
    ((syn = false ∧ sgnT L i = s → RdrAt w' r L (i + 1) d false dp gr dv) ∧ (¬ (syn = false ∧ sgnT L i = s) → RdrAt w' r L i d true dp gr dv))
theorem sgn_in {L : List (Int × ByteArray × Int)} {i : Nat} (h : sgnT L i ≠ ⟨#[]⟩) : i < L.length := by
  rcases Nat.lt_or_ge i L.length with k | k
  · exact k
  · exact absurd (by unfold sgnT; rw [List.getElem?_eq_none k]) h

set_option maxRecDepth 100000 in
set_option maxHeartbeats 4000000 in
theorem exp_expect (r : Nat) (L : List (Int × ByteArray × Int)) (i d : Nat) (syn dp gr dv : Bool) (s : ByteArray) (w : World) (h : RdrAt w r L i d syn dp gr dv) (hs : s ≠ ⟨#[]⟩) :
    Calls Tryz.prog 91 #[.pointer (some ⟨r, 0, none⟩), .string s] w (ExpectPost r L i d syn dp gr dv s w) := by
  have hsg := exp_sign r L i d syn dp gr dv w h
  unfold SignPost at hsg
  have hin : syn = false → sgnT L i = s → i + 1 ≤ L.length := fun _ e => sgn_in (by rw [e]; exact hs)
  have hiI : i ≤ 1000000000 := by obtain ⟨_, _, _, _, _, _, _, _, h1, h2, _⟩ := h; omega
  have HIN := Lib.hid hin
  by_cases hy : syn = false ∧ sgnT L i = s
  · obtain ⟨rfl, rfl⟩ := hy
    have hn := HIN.out rfl rfl
    clear hin
    go_enter Tryz.func91, Tryz.ntmps91
    go_wp2_with fail
    refine hsg.mono ?_
    rintro e w1 ⟨rfl, hr1, hk1⟩
    have HR1 := Lib.hid hr1
    obtain ⟨lv, g, bs, hH, _⟩ := hr1
    have c2 := hH.cell 2
    have f2 := hH.free 2
    have cl := hH.lt
    go_wp2_with fail
    go_end0
    obtain ⟨h2, h3⟩ := HR1.out.next hn
    rw [show ((i + 1 : Nat) : Int) = (i : Int) + 1 from by omega] at h2 h3
    exact ⟨rfl, (hk1.mono (fun _ _ e => e.elim)).trans h3 (fun _ _ e => e), fun _ => h2, fun e => absurd ⟨rfl, rfl⟩ e⟩
  · have hne : (if syn = true then (⟨#[]⟩ : ByteArray) else sgnT L i) ≠ s := by
      cases syn with
      | true => simpa using hs.symm
      | false => intro e; exact hy ⟨rfl, e⟩
    generalize (if syn = true then (⟨#[]⟩ : ByteArray) else sgnT L i) = t at hsg hne
    have hnl := text_ne hne
    clear hne
    have HY := Lib.hid hy
    clear hin hy
    go_enter Tryz.func91, Tryz.ntmps91
    go_wp2_with fail
    refine hsg.mono ?_
    rintro e w1 ⟨rfl, hr1, hk1⟩
    have HR1 := Lib.hid hr1
    obtain ⟨lv, g, bs, hH, _⟩ := hr1
    have c4 := hH.cell 4
    have f4 := hH.free 4
    have cl := hH.lt
    go_wp2_with fail
    refine bodyPost_ret (results_none rfl _ _ _) rfl ?_
    have hdi : d ≤ i ∧ i ≤ L.length := by obtain ⟨_, _, _, _, _, _, _, _, h1, _, h2⟩ := HR1.out; exact ⟨h2, h1⟩
    obtain ⟨h2, h3⟩ := HR1.out.put 4 (.bool true) (i' := i) (d' := d) (syn' := true) (dp' := dp) (gr' := gr) (dv' := dv) hdi.2 hdi.1 (fun _ _ => rfl)
    exact ⟨rfl, (hk1.mono (fun _ _ e => e.elim)).trans h3 (fun _ _ e => e), fun e => absurd e HY.out, fun _ => h2⟩
end Go.Proofs.YtiojnbhomjkkgaaGreatDoor

namespace Go.Proofs.YtiojnbhomjkkgaaGreatDoor
open Go.RowKit

/-- The parser at block p: its place, and what it has noted. -/
def PrsAt (w : World) (p : Nat) (L : List (Int × ByteArray × Int)) (i : Nat) (syn dp gr dv : Bool) : Prop :=
  ∃ lv, Holds w p #[lv, .int .i64 i, .bool syn, .bool dp, .bool gr, .bool dv] 93 ∧ TokAt (fun x => x ≠ p) w lv L ∧ i ≤ L.length ∧ L.length ≤ 1000000000
section
variable {w w' : World} {p : Nat} {L : List (Int × ByteArray × Int)} {i : Nat} {syn dp gr dv : Bool}
theorem PrsAt.keeps (h : PrsAt w p L i syn dp gr dv) (k : Keeps (fun _ => False) w w') : PrsAt w' p L i syn dp gr dv := by
  obtain ⟨lv, h1, h2, h4⟩ := h
  exact ⟨lv, h1.keeps k (fun e => e), h2.keeps k (fun _ _ e => e), h4⟩
theorem PrsAt.put (h : PrsAt w p L i syn dp gr dv) (o : Nat) (x : Value) {i' : Nat} {syn' dp' gr' dv' : Bool} (hi : i' ≤ L.length)
    (he : ∀ lv : Value, (#[lv, .int .i64 i, .bool syn, .bool dp, .bool gr, .bool dv] : Array Value).setIfInBounds o x = #[lv, .int .i64 i', .bool syn', .bool dp', .bool gr', .bool dv']) :
    PrsAt (w.setCell ⟨p, o, none⟩ x) p L i' syn' dp' gr' dv' ∧ Keeps (fun b => b = p) w (w.setCell ⟨p, o, none⟩ x) := by
  obtain ⟨lv, h1, h2, _, h7⟩ := h
  have k := (Keeps.refl (fun b => b = p) w).setCell (p := ⟨p, o, none⟩) (.inr rfl) x
  exact ⟨⟨lv, by rw [← he]; exact h1.set o x, h2.keeps k (fun _ hg e => hg e), hi, h7⟩, k⟩
theorem PrsAt.next (h : PrsAt w p L i syn dp gr dv) (hi : i + 1 ≤ L.length) : PrsAt (w.setCell ⟨p, 1, none⟩ (.int .i64 ((i : Int) + 1))) p L (i + 1) syn dp gr dv ∧ Keeps (fun b => b = p) w (w.setCell ⟨p, 1, none⟩ (.int .i64 ((i : Int) + 1))) :=
  h.put 1 _ hi (fun _ => rfl)
theorem PrsAt.cells (h : PrsAt w p L i syn dp gr dv) : w.cell? ⟨p, 1, none⟩ = some (.int .i64 i) ∧ w.cell? ⟨p, 2, none⟩ = some (.bool syn) ∧ w.cell? ⟨p, 3, none⟩ = some (.bool dp) ∧ w.cell? ⟨p, 4, none⟩ = some (.bool gr) ∧ w.cell? ⟨p, 5, none⟩ = some (.bool dv) ∧
    w.frozen? ⟨p, 1, none⟩ = false ∧ w.frozen? ⟨p, 2, none⟩ = false ∧ w.frozen? ⟨p, 3, none⟩ = false ∧ w.frozen? ⟨p, 4, none⟩ = false ∧ w.frozen? ⟨p, 5, none⟩ = false ∧ p < w.heap.size ∧ i ≤ L.length ∧ L.length ≤ 1000000000 := by
  obtain ⟨lv, h1, _, h3, h4⟩ := h
  exact ⟨h1.cell 1, h1.cell 2, h1.cell 3, h1.cell 4, h1.cell 5, h1.free 1, h1.free 2, h1.free 3, h1.free 4, h1.free 5, h1.lt, h3, h4⟩
end
/-- What sign returns. -/
def PSignPost (p : Nat) (L : List (Int × ByteArray × Int)) (i : Nat) (syn dp gr dv : Bool) (w : World) (e : Ending) (w' : World) : Prop :=
  e = .returned (.string (sgnT L i)) ∧ PrsAt w' p L i syn dp gr dv ∧ Keeps (fun _ => False) w w'
set_option maxRecDepth 100000 in
set_option maxHeartbeats 4000000 in
theorem r2_sign (p : Nat) (L : List (Int × ByteArray × Int)) (i : Nat) (syn dp gr dv : Bool) (w : World) (h : PrsAt w p L i syn dp gr dv) :
    Calls Tryz.prog 49 #[.pointer (some ⟨p, 0, none⟩)] w (PSignPost p L i syn dp gr dv w) := by
  have HR := Lib.hid h
  obtain ⟨lv, hH, ⟨a, cap, rfl, hsz, hTk⟩, hiL, hLb⟩ := h
  have HTK := Lib.hid hTk
  clear hTk hsz
  have c0 := hH.cell 0
  have c2 := hH.cell 1
  have cl := hH.lt
  by_cases hlt : i < L.length
  · have hltI : (i : Int) < (L.length : Int) := by omega
    have hltI2 : ¬ ((L.length : Int) ≤ (i : Int)) := by omega
    obtain ⟨gt, ot, rfl, _, hc⟩ := HTK.out (by omega)
    obtain ⟨d0, d1, _⟩ := hc i hlt
    have hs : sgnT L i = if L[i].1 = 4 then L[i].2.1 else ⟨#[]⟩ := by unfold sgnT; rw [List.getElem?_eq_getElem hlt]
    have HS := Lib.hid hs
    clear hc hs
    generalize L[i].1 = kd at *
    generalize L[i].2.1 = tx at *
    by_cases hk : kd = 4
    · subst hk
      have hfin := Lib.hid (show sgnT L i = tx from by rw [HS.out]; rfl)
      go_enter Tryz.func49, Tryz.ntmps49
      go_wp2_with fail
      go_quiet (fail)
      go_wp2_with fail
      go_quiet (fail)
      go_wp2_with fail
      go_ret
      exact ⟨by rw [hfin.out]; rfl, (HR.out.keeps (keeps_draws _ _)).keeps (keeps_draws _ _), (keeps_draws _ _).drewN _⟩
    · have hkb : (kd == 4) = false := by simpa using hk
      have hfin := Lib.hid (show sgnT L i = ⟨#[]⟩ from by rw [HS.out, if_neg hk])
      clear hk
      go_enter Tryz.func49, Tryz.ntmps49
      go_wp2_with fail
      go_quiet (fail)
      go_wp2_with fail
      go_ret
      exact ⟨by rw [hfin.out]; rfl, HR.out.keeps (keeps_draws _ _), keeps_draws _ _⟩
  · have hltI : ¬ (i : Int) < (L.length : Int) := by omega
    have hltI2 : (L.length : Int) ≤ (i : Int) := by omega
    have hfin := Lib.hid (show sgnT L i = ⟨#[]⟩ from by unfold sgnT; rw [List.getElem?_eq_none (by omega)])
    go_enter Tryz.func49, Tryz.ntmps49
    go_wp2_with fail
    go_quiet (fail)
    go_wp2_with fail
    go_ret
    exact ⟨by rw [hfin.out]; rfl, HR.out.keeps (keeps_draws _ _), keeps_draws _ _⟩
/-- What take leaves. -/
def PTakePost (p : Nat) (L : List (Int × ByteArray × Int)) (i : Nat) (syn dp gr dv : Bool) (s : ByteArray) (w : World) (e : Ending) (w' : World) : Prop :=
  e = .returned (.tuple #[]) ∧ Keeps (fun b => b = p) w w' ∧ ((sgnT L i = s → PrsAt w' p L (i + 1) syn dp gr dv) ∧ (sgnT L i ≠ s → PrsAt w' p L i true dp gr dv))
set_option maxRecDepth 100000 in
set_option maxHeartbeats 4000000 in
theorem r2_take (p : Nat) (L : List (Int × ByteArray × Int)) (i : Nat) (syn dp gr dv : Bool) (s : ByteArray) (w : World) (h : PrsAt w p L i syn dp gr dv) (hs : s ≠ ⟨#[]⟩) :
    Calls Tryz.prog 93 #[.pointer (some ⟨p, 0, none⟩), .string s] w (PTakePost p L i syn dp gr dv s w) := by
  have hsg := r2_sign p L i syn dp gr dv w h
  unfold PSignPost at hsg
  have hiI : i ≤ 1000000000 := by obtain ⟨_, _, _, h1, h2⟩ := h; omega
  by_cases hy : sgnT L i = s
  · have hn : i + 1 ≤ L.length := sgn_in (by rw [hy]; exact hs)
    have HSG := Lib.hid (hy ▸ hsg)
    have HY := Lib.hid hy
    clear hsg hy
    go_enter Tryz.func93, Tryz.ntmps93
    go_wp2_with fail
    refine (by exact HSG.out : Calls _ _ _ _ _).mono ?_
    rintro e w1 ⟨rfl, hr1, hk1⟩
    have HR1 := Lib.hid hr1
    obtain ⟨c1, _, _, _, _, f1, _, _, _, _, cl, _, _⟩ := hr1.cells
    clear hr1
    go_wp2_with fail
    go_end0
    obtain ⟨h2, h3⟩ := HR1.out.next hn
    exact ⟨rfl, (hk1.mono (fun _ _ e => e.elim)).trans h3 (fun _ _ e => e), fun _ => h2, fun e => absurd HY.out e⟩
  · have hnl := text_ne hy
    have HY := Lib.hid hy
    have HSG := Lib.hid hsg
    clear hy hsg
    obtain ⟨t, ht⟩ : ∃ t, t = sgnT L i := ⟨_, rfl⟩
    rw [← ht] at HSG hnl
    have HT := Lib.hid ht
    clear ht
    go_enter Tryz.func93, Tryz.ntmps93
    go_wp2_with fail
    refine (by exact HSG.out : Calls _ _ _ _ _).mono ?_
    rintro e w1 ⟨rfl, hr1, hk1⟩
    have HR1 := Lib.hid hr1
    obtain ⟨_, c2, _, _, _, _, f2, _, _, _, cl, hiL, _⟩ := hr1.cells
    clear hr1
    go_wp2_with fail
    refine bodyPost_ret (results_none rfl _ _ _) rfl ?_
    obtain ⟨h2, h3⟩ := HR1.out.put 2 (.bool true) (i' := i) (syn' := true) (dp' := dp) (gr' := gr) (dv' := dv) hiL (fun _ => rfl)
    exact ⟨rfl, (hk1.mono (fun _ _ e => e.elim)).trans h3 (fun _ _ e => e), fun e => absurd e HY.out, fun _ => h2⟩
theorem r2_truth (b : Bool) (w : World) : Calls Tryz.prog 94 #[.bool b] w fun e w' => e = .returned (.int .u32 (bitT b)) ∧ w = w' := by
  go_enter Tryz.func94, Tryz.ntmps94
  cases b
  all_goals
    go_wp2_with fail
    go_ret
    exact ⟨rfl, rfl⟩
end Go.Proofs.YtiojnbhomjkkgaaGreatDoor

namespace Go.Proofs.YtiojnbhomjkkgaaGreatDoor
open Go.RowKit

def PAppPost (p : Nat) (L : List (Int × ByteArray × Int)) (i : Nat) (syn dp gr dv : Bool) (f : Nat) (a b : Int) (w : World) (e : Ending) (w' : World) : Prop :=
  e = .returned (.int .u32 (if divB f b = true then 0 else appT f a b)) ∧ PrsAt w' p L i syn dp gr (dv || divB f b) ∧ Keeps (fun x => x = p) w w'
set_option maxHeartbeats 1000000 in
theorem r2_app1 (p : Nat) (L : List (Int × ByteArray × Int)) (i : Nat) (syn dp gr dv : Bool) (a b : Int) (w : World) (h : PrsAt w p L i syn dp gr dv) (ha : 0 ≤ a) (ha1 : a ≤ 4294967295) (hb : 0 ≤ b) (hb1 : b ≤ 4294967295) :
    Calls Tryz.prog 172 #[.pointer (some ⟨p, 0, none⟩), .string ⟨#[42]⟩, .int .u32 a, .int .u32 b] w (PAppPost p L i syn dp gr dv 1 a b w) := by
  have hdv := Lib.hid (show divB 1 b = false from by unfold divB; simp)
  have HR := Lib.hid h
  clear h
  go_enter Tryz.func172, Tryz.ntmps172
  go_wp2_with fail
  go_ret
  exact ⟨by rw [hdv.out]; rfl, by rw [hdv.out, Bool.or_false]; exact HR.out, Keeps.refl _ _⟩
set_option maxHeartbeats 1000000 in
theorem r2_app2 (p : Nat) (L : List (Int × ByteArray × Int)) (i : Nat) (syn dp gr dv : Bool) (a b : Int) (w : World) (h : PrsAt w p L i syn dp gr dv) (ha : 0 ≤ a) (ha1 : a ≤ 4294967295) (hb : 0 ≤ b) (hb1 : b ≤ 4294967295) :
    Calls Tryz.prog 172 #[.pointer (some ⟨p, 0, none⟩), .string ⟨#[47]⟩, .int .u32 a, .int .u32 b] w (PAppPost p L i syn dp gr dv 2 a b w) := by
  by_cases h0 : b = 0
  · subst h0
    have HR := Lib.hid h
    obtain ⟨_, _, _, _, c5, _, _, _, _, f5, cl, hiL, _⟩ := h.cells
    clear h
    go_enter Tryz.func172, Tryz.ntmps172
    go_wp2_with fail
    go_ret
    obtain ⟨h2, h3⟩ := HR.out.put 5 (.bool true) (i' := i) (syn' := syn) (dp' := dp) (gr' := gr) (dv' := true) hiL (fun _ => rfl)
    exact ⟨rfl, by rw [show (dv || divB 2 0) = true from by cases dv <;> rfl]; exact h2, h3⟩
  · have h0' : (b == 0) = false := by rw [beq_eq_false_iff_ne]; exact h0
    have hdv : divB 2 b = false := by unfold divB; rw [h0']; rfl
    have HR := Lib.hid h
    have HD := Lib.hid hdv
    have hb' : 1 ≤ b := by omega
    clear h hdv
    go_enter Tryz.func172, Tryz.ntmps172
    go_wp2_with fail
    go_ret
    exact ⟨by rw [HD.out]; rfl, by rw [HD.out, Bool.or_false]; exact HR.out, Keeps.refl _ _⟩
set_option maxHeartbeats 1000000 in
theorem r2_app3 (p : Nat) (L : List (Int × ByteArray × Int)) (i : Nat) (syn dp gr dv : Bool) (a b : Int) (w : World) (h : PrsAt w p L i syn dp gr dv) (ha : 0 ≤ a) (ha1 : a ≤ 4294967295) (hb : 0 ≤ b) (hb1 : b ≤ 4294967295) :
    Calls Tryz.prog 172 #[.pointer (some ⟨p, 0, none⟩), .string ⟨#[37]⟩, .int .u32 a, .int .u32 b] w (PAppPost p L i syn dp gr dv 3 a b w) := by
  by_cases h0 : b = 0
  · subst h0
    have HR := Lib.hid h
    obtain ⟨_, _, _, _, c5, _, _, _, _, f5, cl, hiL, _⟩ := h.cells
    clear h
    go_enter Tryz.func172, Tryz.ntmps172
    go_wp2_with fail
    go_ret
    obtain ⟨h2, h3⟩ := HR.out.put 5 (.bool true) (i' := i) (syn' := syn) (dp' := dp) (gr' := gr) (dv' := true) hiL (fun _ => rfl)
    exact ⟨rfl, by rw [show (dv || divB 3 0) = true from by cases dv <;> rfl]; exact h2, h3⟩
  · have h0' : (b == 0) = false := by rw [beq_eq_false_iff_ne]; exact h0
    have hdv : divB 3 b = false := by unfold divB; rw [h0']; rfl
    have HR := Lib.hid h
    have HD := Lib.hid hdv
    have hb' : 1 ≤ b := by omega
    clear h hdv
    go_enter Tryz.func172, Tryz.ntmps172
    go_wp2_with fail
    go_ret
    exact ⟨by rw [HD.out]; rfl, by rw [HD.out, Bool.or_false]; exact HR.out, Keeps.refl _ _⟩
set_option maxHeartbeats 1000000 in
theorem r2_app4 (p : Nat) (L : List (Int × ByteArray × Int)) (i : Nat) (syn dp gr dv : Bool) (a b : Int) (w : World) (h : PrsAt w p L i syn dp gr dv) (ha : 0 ≤ a) (ha1 : a ≤ 4294967295) (hb : 0 ≤ b) (hb1 : b ≤ 4294967295) :
    Calls Tryz.prog 172 #[.pointer (some ⟨p, 0, none⟩), .string ⟨#[43]⟩, .int .u32 a, .int .u32 b] w (PAppPost p L i syn dp gr dv 4 a b w) := by
  have hdv := Lib.hid (show divB 4 b = false from by unfold divB; simp)
  have HR := Lib.hid h
  clear h
  go_enter Tryz.func172, Tryz.ntmps172
  go_wp2_with fail
  go_ret
  exact ⟨by rw [hdv.out]; rfl, by rw [hdv.out, Bool.or_false]; exact HR.out, Keeps.refl _ _⟩
set_option maxHeartbeats 1000000 in
theorem r2_app5 (p : Nat) (L : List (Int × ByteArray × Int)) (i : Nat) (syn dp gr dv : Bool) (a b : Int) (w : World) (h : PrsAt w p L i syn dp gr dv) (ha : 0 ≤ a) (ha1 : a ≤ 4294967295) (hb : 0 ≤ b) (hb1 : b ≤ 4294967295) :
    Calls Tryz.prog 172 #[.pointer (some ⟨p, 0, none⟩), .string ⟨#[45]⟩, .int .u32 a, .int .u32 b] w (PAppPost p L i syn dp gr dv 5 a b w) := by
  have hdv := Lib.hid (show divB 5 b = false from by unfold divB; simp)
  have HR := Lib.hid h
  clear h
  go_enter Tryz.func172, Tryz.ntmps172
  go_wp2_with fail
  go_ret
  exact ⟨by rw [hdv.out]; rfl, by rw [hdv.out, Bool.or_false]; exact HR.out, Keeps.refl _ _⟩
set_option maxHeartbeats 1000000 in
theorem r2_app6 (p : Nat) (L : List (Int × ByteArray × Int)) (i : Nat) (syn dp gr dv : Bool) (a b : Int) (w : World) (h : PrsAt w p L i syn dp gr dv) (ha : 0 ≤ a) (ha1 : a ≤ 4294967295) (hb : 0 ≤ b) (hb1 : b ≤ 4294967295) :
    Calls Tryz.prog 172 #[.pointer (some ⟨p, 0, none⟩), .string ⟨#[60, 60]⟩, .int .u32 a, .int .u32 b] w (PAppPost p L i syn dp gr dv 6 a b w) := by
  have hdv := Lib.hid (show divB 6 b = false from by unfold divB; simp)
  have HR := Lib.hid h
  clear h
  by_cases h32 : 32 ≤ b
  · have hz : appT 6 a b = 0 := by
      have e : min b.toNat 32 = 32 := by omega
      show a * 2 ^ min b.toNat 32 % 4294967296 = 0
      rw [e]
      exact Int.mul_emod_left a 4294967296
    have HZ := Lib.hid hz
    clear hz
    go_enter Tryz.func172, Tryz.ntmps172
    go_wp2_with fail
    go_ret
    exact ⟨by rw [hdv.out, HZ.out]; rfl, by rw [hdv.out, Bool.or_false]; exact HR.out, Keeps.refl _ _⟩
  · have hm := Lib.hid (show appT 6 a b = a * 2 ^ b.toNat % 4294967296 from by
      show a * 2 ^ min b.toNat 32 % 4294967296 = _
      rw [show min b.toNat 32 = b.toNat from by omega])
    go_enter Tryz.func172, Tryz.ntmps172
    go_wp2_with fail
    go_ret
    exact ⟨by rw [hdv.out, if_neg (by simp), hm.out]; rfl, by rw [hdv.out, Bool.or_false]; exact HR.out, Keeps.refl _ _⟩
set_option maxHeartbeats 1000000 in
theorem r2_app7 (p : Nat) (L : List (Int × ByteArray × Int)) (i : Nat) (syn dp gr dv : Bool) (a b : Int) (w : World) (h : PrsAt w p L i syn dp gr dv) (ha : 0 ≤ a) (ha1 : a ≤ 4294967295) (hb : 0 ≤ b) (hb1 : b ≤ 4294967295) :
    Calls Tryz.prog 172 #[.pointer (some ⟨p, 0, none⟩), .string ⟨#[62, 62]⟩, .int .u32 a, .int .u32 b] w (PAppPost p L i syn dp gr dv 7 a b w) := by
  have hdv := Lib.hid (show divB 7 b = false from by unfold divB; simp)
  have HR := Lib.hid h
  clear h
  by_cases h32 : 32 ≤ b
  · have hz : appT 7 a b = 0 := by
      have e : min b.toNat 32 = 32 := by omega
      show a / 2 ^ min b.toNat 32 = 0
      rw [e]
      exact Int.ediv_eq_zero_of_lt ha (by show a < 4294967296; omega)
    have HZ := Lib.hid hz
    clear hz
    go_enter Tryz.func172, Tryz.ntmps172
    go_wp2_with fail
    go_ret
    exact ⟨by rw [hdv.out, HZ.out]; rfl, by rw [hdv.out, Bool.or_false]; exact HR.out, Keeps.refl _ _⟩
  · have hm := Lib.hid (show appT 7 a b = a / 2 ^ b.toNat from by
      show a / 2 ^ min b.toNat 32 = _
      rw [show min b.toNat 32 = b.toNat from by omega])
    go_enter Tryz.func172, Tryz.ntmps172
    go_wp2_with fail
    go_ret
    exact ⟨by rw [hdv.out, if_neg (by simp), hm.out]; rfl, by rw [hdv.out, Bool.or_false]; exact HR.out, Keeps.refl _ _⟩
set_option maxHeartbeats 1000000 in
theorem r2_app8 (p : Nat) (L : List (Int × ByteArray × Int)) (i : Nat) (syn dp gr dv : Bool) (a b : Int) (w : World) (h : PrsAt w p L i syn dp gr dv) (ha : 0 ≤ a) (ha1 : a ≤ 4294967295) (hb : 0 ≤ b) (hb1 : b ≤ 4294967295) :
    Calls Tryz.prog 172 #[.pointer (some ⟨p, 0, none⟩), .string ⟨#[60]⟩, .int .u32 a, .int .u32 b] w (PAppPost p L i syn dp gr dv 8 a b w) := by
  have hdv := Lib.hid (show divB 8 b = false from by unfold divB; simp)
  have HR := Lib.hid h
  clear h
  go_enter Tryz.func172, Tryz.ntmps172
  go_wp2_with fail
  all_goals
    refine (r2_truth _ _).mono ?_
    rintro e w1 ⟨rfl, rfl⟩
    go_wp2_with fail
    go_ret
    exact ⟨by rw [hdv.out]; rfl, by rw [hdv.out, Bool.or_false]; exact HR.out, Keeps.refl _ _⟩
set_option maxHeartbeats 1000000 in
theorem r2_app9 (p : Nat) (L : List (Int × ByteArray × Int)) (i : Nat) (syn dp gr dv : Bool) (a b : Int) (w : World) (h : PrsAt w p L i syn dp gr dv) (ha : 0 ≤ a) (ha1 : a ≤ 4294967295) (hb : 0 ≤ b) (hb1 : b ≤ 4294967295) :
    Calls Tryz.prog 172 #[.pointer (some ⟨p, 0, none⟩), .string ⟨#[62]⟩, .int .u32 a, .int .u32 b] w (PAppPost p L i syn dp gr dv 9 a b w) := by
  have hdv := Lib.hid (show divB 9 b = false from by unfold divB; simp)
  have HR := Lib.hid h
  clear h
  go_enter Tryz.func172, Tryz.ntmps172
  go_wp2_with fail
  all_goals
    refine (r2_truth _ _).mono ?_
    rintro e w1 ⟨rfl, rfl⟩
    go_wp2_with fail
    go_ret
    exact ⟨by rw [hdv.out]; rfl, by rw [hdv.out, Bool.or_false]; exact HR.out, Keeps.refl _ _⟩
set_option maxHeartbeats 1000000 in
theorem r2_app10 (p : Nat) (L : List (Int × ByteArray × Int)) (i : Nat) (syn dp gr dv : Bool) (a b : Int) (w : World) (h : PrsAt w p L i syn dp gr dv) (ha : 0 ≤ a) (ha1 : a ≤ 4294967295) (hb : 0 ≤ b) (hb1 : b ≤ 4294967295) :
    Calls Tryz.prog 172 #[.pointer (some ⟨p, 0, none⟩), .string ⟨#[60, 61]⟩, .int .u32 a, .int .u32 b] w (PAppPost p L i syn dp gr dv 10 a b w) := by
  have hdv := Lib.hid (show divB 10 b = false from by unfold divB; simp)
  have HR := Lib.hid h
  clear h
  go_enter Tryz.func172, Tryz.ntmps172
  go_wp2_with fail
  all_goals
    refine (r2_truth _ _).mono ?_
    rintro e w1 ⟨rfl, rfl⟩
    go_wp2_with fail
    go_ret
    exact ⟨by rw [hdv.out]; rfl, by rw [hdv.out, Bool.or_false]; exact HR.out, Keeps.refl _ _⟩
set_option maxHeartbeats 1000000 in
theorem r2_app11 (p : Nat) (L : List (Int × ByteArray × Int)) (i : Nat) (syn dp gr dv : Bool) (a b : Int) (w : World) (h : PrsAt w p L i syn dp gr dv) (ha : 0 ≤ a) (ha1 : a ≤ 4294967295) (hb : 0 ≤ b) (hb1 : b ≤ 4294967295) :
    Calls Tryz.prog 172 #[.pointer (some ⟨p, 0, none⟩), .string ⟨#[62, 61]⟩, .int .u32 a, .int .u32 b] w (PAppPost p L i syn dp gr dv 11 a b w) := by
  have hdv := Lib.hid (show divB 11 b = false from by unfold divB; simp)
  have HR := Lib.hid h
  clear h
  go_enter Tryz.func172, Tryz.ntmps172
  go_wp2_with fail
  all_goals
    refine (r2_truth _ _).mono ?_
    rintro e w1 ⟨rfl, rfl⟩
    go_wp2_with fail
    go_ret
    exact ⟨by rw [hdv.out]; rfl, by rw [hdv.out, Bool.or_false]; exact HR.out, Keeps.refl _ _⟩
set_option maxHeartbeats 1000000 in
theorem r2_app12 (p : Nat) (L : List (Int × ByteArray × Int)) (i : Nat) (syn dp gr dv : Bool) (a b : Int) (w : World) (h : PrsAt w p L i syn dp gr dv) (ha : 0 ≤ a) (ha1 : a ≤ 4294967295) (hb : 0 ≤ b) (hb1 : b ≤ 4294967295) :
    Calls Tryz.prog 172 #[.pointer (some ⟨p, 0, none⟩), .string ⟨#[61, 61]⟩, .int .u32 a, .int .u32 b] w (PAppPost p L i syn dp gr dv 12 a b w) := by
  have hdv := Lib.hid (show divB 12 b = false from by unfold divB; simp)
  have HR := Lib.hid h
  clear h
  go_enter Tryz.func172, Tryz.ntmps172
  go_wp2_with fail
  all_goals
    refine (r2_truth _ _).mono ?_
    rintro e w1 ⟨rfl, rfl⟩
    go_wp2_with fail
    go_ret
    exact ⟨by rw [hdv.out]; rfl, by rw [hdv.out, Bool.or_false]; exact HR.out, Keeps.refl _ _⟩
set_option maxHeartbeats 1000000 in
theorem r2_app13 (p : Nat) (L : List (Int × ByteArray × Int)) (i : Nat) (syn dp gr dv : Bool) (a b : Int) (w : World) (h : PrsAt w p L i syn dp gr dv) (ha : 0 ≤ a) (ha1 : a ≤ 4294967295) (hb : 0 ≤ b) (hb1 : b ≤ 4294967295) :
    Calls Tryz.prog 172 #[.pointer (some ⟨p, 0, none⟩), .string ⟨#[33, 61]⟩, .int .u32 a, .int .u32 b] w (PAppPost p L i syn dp gr dv 13 a b w) := by
  have hdv := Lib.hid (show divB 13 b = false from by unfold divB; simp)
  have HR := Lib.hid h
  clear h
  go_enter Tryz.func172, Tryz.ntmps172
  go_wp2_with fail
  all_goals
    refine (r2_truth _ _).mono ?_
    rintro e w1 ⟨rfl, rfl⟩
    go_wp2_with fail
    go_ret
    exact ⟨by rw [hdv.out]; rfl, by rw [hdv.out, Bool.or_false]; exact HR.out, Keeps.refl _ _⟩
set_option maxHeartbeats 1000000 in
theorem r2_app14 (p : Nat) (L : List (Int × ByteArray × Int)) (i : Nat) (syn dp gr dv : Bool) (a b : Int) (w : World) (h : PrsAt w p L i syn dp gr dv) (ha : 0 ≤ a) (ha1 : a ≤ 4294967295) (hb : 0 ≤ b) (hb1 : b ≤ 4294967295) :
    Calls Tryz.prog 172 #[.pointer (some ⟨p, 0, none⟩), .string ⟨#[38]⟩, .int .u32 a, .int .u32 b] w (PAppPost p L i syn dp gr dv 14 a b w) := by
  have hdv := Lib.hid (show divB 14 b = false from by unfold divB; simp)
  have HR := Lib.hid h
  clear h
  go_enter Tryz.func172, Tryz.ntmps172
  go_wp2_with fail
  go_ret
  exact ⟨by rw [hdv.out]; rfl, by rw [hdv.out, Bool.or_false]; exact HR.out, Keeps.refl _ _⟩
set_option maxHeartbeats 1000000 in
theorem r2_app15 (p : Nat) (L : List (Int × ByteArray × Int)) (i : Nat) (syn dp gr dv : Bool) (a b : Int) (w : World) (h : PrsAt w p L i syn dp gr dv) (ha : 0 ≤ a) (ha1 : a ≤ 4294967295) (hb : 0 ≤ b) (hb1 : b ≤ 4294967295) :
    Calls Tryz.prog 172 #[.pointer (some ⟨p, 0, none⟩), .string ⟨#[94]⟩, .int .u32 a, .int .u32 b] w (PAppPost p L i syn dp gr dv 15 a b w) := by
  have hdv := Lib.hid (show divB 15 b = false from by unfold divB; simp)
  have HR := Lib.hid h
  clear h
  go_enter Tryz.func172, Tryz.ntmps172
  go_wp2_with fail
  go_ret
  exact ⟨by rw [hdv.out]; rfl, by rw [hdv.out, Bool.or_false]; exact HR.out, Keeps.refl _ _⟩
set_option maxHeartbeats 1000000 in
theorem r2_app16 (p : Nat) (L : List (Int × ByteArray × Int)) (i : Nat) (syn dp gr dv : Bool) (a b : Int) (w : World) (h : PrsAt w p L i syn dp gr dv) (ha : 0 ≤ a) (ha1 : a ≤ 4294967295) (hb : 0 ≤ b) (hb1 : b ≤ 4294967295) :
    Calls Tryz.prog 172 #[.pointer (some ⟨p, 0, none⟩), .string ⟨#[124]⟩, .int .u32 a, .int .u32 b] w (PAppPost p L i syn dp gr dv 16 a b w) := by
  have hdv := Lib.hid (show divB 16 b = false from by unfold divB; simp)
  have HR := Lib.hid h
  clear h
  go_enter Tryz.func172, Tryz.ntmps172
  go_wp2_with fail
  go_ret
  exact ⟨by rw [hdv.out]; rfl, by rw [hdv.out, Bool.or_false]; exact HR.out, Keeps.refl _ _⟩
set_option maxHeartbeats 1000000 in
theorem r2_app17 (p : Nat) (L : List (Int × ByteArray × Int)) (i : Nat) (syn dp gr dv : Bool) (a b : Int) (w : World) (h : PrsAt w p L i syn dp gr dv) (ha : 0 ≤ a) (ha1 : a ≤ 4294967295) (hb : 0 ≤ b) (hb1 : b ≤ 4294967295) :
    Calls Tryz.prog 172 #[.pointer (some ⟨p, 0, none⟩), .string ⟨#[38, 38]⟩, .int .u32 a, .int .u32 b] w (PAppPost p L i syn dp gr dv 17 a b w) := by
  have hdv := Lib.hid (show divB 17 b = false from by unfold divB; simp)
  have HR := Lib.hid h
  clear h
  by_cases h0 : a = 0
  · subst h0
    have e0 := Lib.hid (show appT 17 0 b = bitT false from by simp [appT])
    go_enter Tryz.func172, Tryz.ntmps172
    go_wp2_with fail
    refine (r2_truth _ _).mono ?_
    rintro e w1 ⟨rfl, rfl⟩
    go_wp2_with fail
    go_ret
    exact ⟨by rw [hdv.out, if_neg (by simp), e0.out]; rfl, by rw [hdv.out, Bool.or_false]; exact HR.out, Keeps.refl _ _⟩
  · have h1 : (a != 0) = true := by rw [bne_iff_ne]; exact h0
    have e0 := Lib.hid (show appT 17 a b = bitT (b != 0) from by show bitT (a != 0 && b != 0) = _; rw [h1]; rfl)
    go_enter Tryz.func172, Tryz.ntmps172
    go_wp2_with fail
    refine (r2_truth _ _).mono ?_
    rintro e w1 ⟨rfl, rfl⟩
    go_wp2_with fail
    go_ret
    exact ⟨by rw [hdv.out, if_neg (by simp), e0.out]; rfl, by rw [hdv.out, Bool.or_false]; exact HR.out, Keeps.refl _ _⟩
set_option maxHeartbeats 1000000 in
theorem r2_app18 (p : Nat) (L : List (Int × ByteArray × Int)) (i : Nat) (syn dp gr dv : Bool) (a b : Int) (w : World) (h : PrsAt w p L i syn dp gr dv) (ha : 0 ≤ a) (ha1 : a ≤ 4294967295) (hb : 0 ≤ b) (hb1 : b ≤ 4294967295) :
    Calls Tryz.prog 172 #[.pointer (some ⟨p, 0, none⟩), .string ⟨#[124, 124]⟩, .int .u32 a, .int .u32 b] w (PAppPost p L i syn dp gr dv 18 a b w) := by
  have hdv := Lib.hid (show divB 18 b = false from by unfold divB; simp)
  have HR := Lib.hid h
  clear h
  by_cases h0 : a = 0
  · subst h0
    have e0 := Lib.hid (show appT 18 0 b = bitT (b != 0) from by simp [appT])
    go_enter Tryz.func172, Tryz.ntmps172
    go_wp2_with fail
    refine (r2_truth _ _).mono ?_
    rintro e w1 ⟨rfl, rfl⟩
    go_wp2_with fail
    go_ret
    exact ⟨by rw [hdv.out, if_neg (by simp), e0.out]; rfl, by rw [hdv.out, Bool.or_false]; exact HR.out, Keeps.refl _ _⟩
  · have h1 : (a != 0) = true := by rw [bne_iff_ne]; exact h0
    have e0 := Lib.hid (show appT 18 a b = bitT true from by show bitT (a != 0 || b != 0) = _; rw [h1]; rfl)
    go_enter Tryz.func172, Tryz.ntmps172
    go_wp2_with fail
    refine (r2_truth _ _).mono ?_
    rintro e w1 ⟨rfl, rfl⟩
    go_wp2_with fail
    go_ret
    exact ⟨by rw [hdv.out, if_neg (by simp), e0.out]; rfl, by rw [hdv.out, Bool.or_false]; exact HR.out, Keeps.refl _ _⟩
end Go.Proofs.YtiojnbhomjkkgaaGreatDoor

namespace Go.Proofs.YtiojnbhomjkkgaaGreatDoor
open Go.RowKit

theorem text_of {a : ByteArray} {l : List UInt8} (h : a.toList = l) : a = ⟨l.toArray⟩ := by
  rw [ByteArray.toList_eq] at h
  apply ByteArray.ext; show a.data = l.toArray; rw [← h]
section
variable {w : World} {r : Nat} {L : List (Int × ByteArray × Int)} {i d : Nat} {syn dp gr dv : Bool}
theorem RdrAt.cells (h : RdrAt w r L i d syn dp gr dv) : w.cell? ⟨r, 2, none⟩ = some (.int .i64 i) ∧ w.cell? ⟨r, 3, none⟩ = some (.int .i64 d) ∧ w.cell? ⟨r, 4, none⟩ = some (.bool syn) ∧ w.cell? ⟨r, 5, none⟩ = some (.bool dp) ∧ w.cell? ⟨r, 6, none⟩ = some (.bool gr) ∧ w.cell? ⟨r, 7, none⟩ = some (.bool dv) ∧
    w.frozen? ⟨r, 2, none⟩ = false ∧ w.frozen? ⟨r, 3, none⟩ = false ∧ w.frozen? ⟨r, 4, none⟩ = false ∧ w.frozen? ⟨r, 5, none⟩ = false ∧ w.frozen? ⟨r, 6, none⟩ = false ∧ w.frozen? ⟨r, 7, none⟩ = false ∧ r < w.heap.size ∧ i ≤ L.length ∧ L.length ≤ 1000000000 ∧ d ≤ i := by
  obtain ⟨lv, g, bs, h1, h2, h3, h4, h5, h6, h7, h8⟩ := h
  exact ⟨h1.cell 2, h1.cell 3, h1.cell 4, h1.cell 5, h1.cell 6, h1.cell 7, h1.free 2, h1.free 3, h1.free 4, h1.free 5, h1.free 6, h1.free 7, h1.lt, h6, h7, h8⟩
theorem RdrAt.on (h : RdrAt w r L i d syn dp gr dv) (hi : i + 1 ≤ L.length) : RdrAt (w.setCell ⟨r, 2, none⟩ (.int .i64 ((i : Int) + 1))) r L (i + 1) d syn dp gr dv ∧ Keeps (fun b => b = r) w (w.setCell ⟨r, 2, none⟩ (.int .i64 ((i : Int) + 1))) := by
  have := h.next hi
  rwa [show ((i + 1 : Nat) : Int) = (i : Int) + 1 from by omega] at this
theorem RdrAt.deeper (h : RdrAt w r L i d syn dp gr dv) (hd : d + 1 ≤ i) : RdrAt (w.setCell ⟨r, 3, none⟩ (.int .i64 ((d : Int) + 1))) r L i (d + 1) syn dp gr dv ∧ Keeps (fun b => b = r) w (w.setCell ⟨r, 3, none⟩ (.int .i64 ((d : Int) + 1))) := by
  have := h.put 3 (.int .i64 ((d + 1 : Nat) : Int)) (i' := i) (d' := d + 1) (syn' := syn) (dp' := dp) (gr' := gr) (dv' := dv) h.cells.2.2.2.2.2.2.2.2.2.2.2.2.2.1 hd (fun _ _ => rfl)
  rwa [show ((d + 1 : Nat) : Int) = (d : Int) + 1 from by omega] at this
theorem RdrAt.back (h : RdrAt w r L i (d + 1) syn dp gr dv) : RdrAt (w.setCell ⟨r, 3, none⟩ (.int .i64 (d : Int))) r L i d syn dp gr dv ∧ Keeps (fun b => b = r) w (w.setCell ⟨r, 3, none⟩ (.int .i64 (d : Int))) :=
  h.put 3 (.int .i64 (d : Int)) (i' := i) (d' := d) h.cells.2.2.2.2.2.2.2.2.2.2.2.2.2.1 (by have := h.cells.2.2.2.2.2.2.2.2.2.2.2.2.2.2.2; omega) (fun _ _ => rfl)
end
/-- What is left where the form is wrong. -/
def SynOut (r : Nat) (L : List (Int × ByteArray × Int)) (d : Nat) (w : World) (e : Ending) (w' : World) : Prop :=
  ∃ (v : Int) (i : Nat) (dp gr dv : Bool), e = .returned (.int .u32 v) ∧ 0 ≤ v ∧ v ≤ 4294967295 ∧ RdrAt w' r L i d true dp gr dv ∧ Keeps (fun b => b = r) w w'
/-- What a reading leaves. -/
def RdOut (r : Nat) (L : List (Int × ByteArray × Int)) (W : Wh) (d i : Nat) (dp gr dv : Bool) (w : World) (e : Ending) (w' : World) : Prop :=
  (∃ (v : Int) (j : Nat) (p g q : Bool), Rd L W d i (some (v, j, p, g, q)) ∧ e = .returned (.int .u32 v) ∧ 0 ≤ v ∧ v ≤ 4294967295 ∧ i < j ∧ j ≤ L.length ∧ RdrAt w' r L j d false (dp || p) (gr || g) (dv || q) ∧ Keeps (fun b => b = r) w w') ∨
  (Rd L W d i none ∧ SynOut r L d w e w')
theorem keeps_r {r : Nat} {w w' : World} (k : Keeps (fun _ => False) w w') : Keeps (fun b => b = r) w w' := k.mono (fun _ _ e => e.elim)
end Go.Proofs.YtiojnbhomjkkgaaGreatDoor

namespace Go.Proofs.YtiojnbhomjkkgaaGreatDoor
open Go.RowKit

set_option maxRecDepth 100000 in
set_option maxHeartbeats 8000000 in
theorem exp_prim_n0 (r : Nat) (L : List (Int × ByteArray × Int)) (d i : Nat) (gr dv : Bool) (w : World) (h : RdrAt w r L i d false true gr dv) (hs : ¬ sgnT L i = ⟨#[40]⟩) (hlt : i < L.length) (hk : L[i].1 = 2) :
    Calls Tryz.prog 48 #[.pointer (some ⟨r, 0, none⟩)] w (RdOut r L .prim d i true gr dv w) := by
  have hsg := exp_sign r L i d false true gr dv w h
  unfold SignPost at hsg
  simp only [Bool.false_eq_true, if_false] at hsg
  have hnl : ((sgnT L i).toList == [40]) = false := by
    rw [beq_eq_false_iff_ne]; intro e; exact hs (text_of e)
  have HS := Lib.hid hs
  generalize sgnT L i = t at hsg hnl
  clear hs
  go_enter Tryz.func48, Tryz.ntmps48
  go_wp2_with fail
  refine hsg.mono ?_
  rintro e w1 ⟨rfl, hr1, hk1⟩
  obtain ⟨c2, c3, c4, c5, c6, _, f2, f3, f4, f5, f6, _, rl, hb1, hb2, hb3⟩ := hr1.cells
  have HR1 := Lib.hid hr1
  obtain ⟨lv, g, bs, hH, ⟨a, cap, rfl, hsz, hTk⟩, _⟩ := hr1
  have c0 := hH.cell 0
  have HTK := Lib.hid hTk
  clear hH hTk hsz
  have hltI : (i : Int) < (L.length : Int) := by omega
  have hltI2 : ¬ ((L.length : Int) ≤ (i : Int)) := by omega
  obtain ⟨gt, ot, rfl, _, hc⟩ := HTK.out (by omega)
  obtain ⟨d0, d1, d2⟩ := hc i hlt
  have hat : L[i]? = some L[i] := List.getElem?_eq_getElem hlt
  have HAT := Lib.hid hat
  clear hc hat d1
  have hrd := rd_num (d := d) HS.out HAT.out hk
  rw [hk] at d0
  have HRD := Lib.hid hrd
  clear hrd hk
  generalize L[i].2.2 = x at *
  have hfin : ∀ (wx : World) (gr' : Bool), gr' = (gr || (decide (x < 0) || decide (4294967295 < x))) → Keeps (fun _ => False) w1 wx →
      RdOut r L .prim d i true gr dv w (.returned (.int .u32 (x % 4294967296))) (((wx.setCell ⟨r, 2, none⟩ (.int .i64 ((i : Int) + 1))).setCell ⟨r, 5, none⟩ (.bool true)).setCell ⟨r, 6, none⟩ (.bool gr')) := by
    intro wx gr' e2 hkx
    obtain ⟨q1, m1⟩ := (HR1.out.keeps hkx).on (by omega)
    obtain ⟨q2, m2⟩ := q1.put 5 (.bool true) (i' := i + 1) (d' := d) (syn' := false) (dp' := true) (gr' := gr) (dv' := dv) (by omega) (by omega) (fun _ _ => rfl)
    obtain ⟨q3, m3⟩ := q2.put 6 (.bool gr') (i' := i + 1) (d' := d) (syn' := false) (dp' := true) (gr' := gr') (dv' := dv) (by omega) (by omega) (fun _ _ => rfl)
    refine .inl ⟨_, _, _, _, _, HRD.out, rfl, by omega, by omega, by omega, by omega, ?_, (((((keeps_r hk1).trans (keeps_r hkx) (fun _ _ e => e)).trans m1 (fun _ _ e => e)).trans m2 (fun _ _ e => e)).trans m3 (fun _ _ e => e))⟩
    rw [← e2, Bool.or_false, show (true || decide (8 < d)) = true from by rfl]; exact q3
  have HFIN := Lib.hid hfin
  clear hfin
  cases gr with
  | true =>
    go_wp2_with fail
    go_quiet (fail)
    go_wp2_with fail
    go_quiet (fail)
    go_wp2_with fail
    go_ret
    exact HFIN.out _ true (by simp) (keeps_draws _ _)
  | false =>
    by_cases hx : x < 0
    · go_wp2_with fail
      go_quiet (fail)
      go_wp2_with fail
      go_quiet (fail)
      go_wp2_with fail
      go_ret
      exact HFIN.out _ true (by simp [hx]) (keeps_draws _ _)
    · by_cases hy : (4294967295 : Int) < x
      · go_wp2_with fail
        go_quiet (fail)
        go_wp2_with fail
        go_quiet (fail)
        go_wp2_with fail
        go_ret
        exact HFIN.out _ true (by simp [hy]) (keeps_draws _ _)
      · go_wp2_with fail
        go_quiet (fail)
        go_wp2_with fail
        go_quiet (fail)
        go_wp2_with fail
        go_ret
        have hq := fun n => HFIN.out (w1.drewN n) (decide (x < 0) || decide (4294967295 < x)) (by simp) (keeps_draws _ _)
        rw [show x % 4294967296 = x from by omega] at hq
        exact hq _
end Go.Proofs.YtiojnbhomjkkgaaGreatDoor

namespace Go.Proofs.YtiojnbhomjkkgaaGreatDoor
open Go.RowKit

set_option maxRecDepth 100000 in
set_option maxHeartbeats 8000000 in
theorem exp_prim_n1 (r : Nat) (L : List (Int × ByteArray × Int)) (d i : Nat) (gr dv : Bool) (w : World) (h8 : 8 < d) (h : RdrAt w r L i d false false gr dv) (hs : ¬ sgnT L i = ⟨#[40]⟩) (hlt : i < L.length) (hk : L[i].1 = 2) :
    Calls Tryz.prog 48 #[.pointer (some ⟨r, 0, none⟩)] w (RdOut r L .prim d i false gr dv w) := by
  have hsg := exp_sign r L i d false false gr dv w h
  unfold SignPost at hsg
  simp only [Bool.false_eq_true, if_false] at hsg
  have hnl : ((sgnT L i).toList == [40]) = false := by
    rw [beq_eq_false_iff_ne]; intro e; exact hs (text_of e)
  have HS := Lib.hid hs
  generalize sgnT L i = t at hsg hnl
  clear hs
  have h8a : (8 : Int) < (d : Int) := by omega
  go_enter Tryz.func48, Tryz.ntmps48
  go_wp2_with fail
  refine hsg.mono ?_
  rintro e w1 ⟨rfl, hr1, hk1⟩
  obtain ⟨c2, c3, c4, c5, c6, _, f2, f3, f4, f5, f6, _, rl, hb1, hb2, hb3⟩ := hr1.cells
  have HR1 := Lib.hid hr1
  obtain ⟨lv, g, bs, hH, ⟨a, cap, rfl, hsz, hTk⟩, _⟩ := hr1
  have c0 := hH.cell 0
  have HTK := Lib.hid hTk
  clear hH hTk hsz
  have hltI : (i : Int) < (L.length : Int) := by omega
  have hltI2 : ¬ ((L.length : Int) ≤ (i : Int)) := by omega
  obtain ⟨gt, ot, rfl, _, hc⟩ := HTK.out (by omega)
  obtain ⟨d0, d1, d2⟩ := hc i hlt
  have hat : L[i]? = some L[i] := List.getElem?_eq_getElem hlt
  have HAT := Lib.hid hat
  clear hc hat d1
  have hrd := rd_num (d := d) HS.out HAT.out hk
  rw [hk] at d0
  have HRD := Lib.hid hrd
  clear hrd hk
  generalize L[i].2.2 = x at *
  have hfin : ∀ (wx : World) (gr' : Bool), gr' = (gr || (decide (x < 0) || decide (4294967295 < x))) → Keeps (fun _ => False) w1 wx →
      RdOut r L .prim d i false gr dv w (.returned (.int .u32 (x % 4294967296))) (((wx.setCell ⟨r, 2, none⟩ (.int .i64 ((i : Int) + 1))).setCell ⟨r, 5, none⟩ (.bool true)).setCell ⟨r, 6, none⟩ (.bool gr')) := by
    intro wx gr' e2 hkx
    obtain ⟨q1, m1⟩ := (HR1.out.keeps hkx).on (by omega)
    obtain ⟨q2, m2⟩ := q1.put 5 (.bool true) (i' := i + 1) (d' := d) (syn' := false) (dp' := true) (gr' := gr) (dv' := dv) (by omega) (by omega) (fun _ _ => rfl)
    obtain ⟨q3, m3⟩ := q2.put 6 (.bool gr') (i' := i + 1) (d' := d) (syn' := false) (dp' := true) (gr' := gr') (dv' := dv) (by omega) (by omega) (fun _ _ => rfl)
    refine .inl ⟨_, _, _, _, _, HRD.out, rfl, by omega, by omega, by omega, by omega, ?_, (((((keeps_r hk1).trans (keeps_r hkx) (fun _ _ e => e)).trans m1 (fun _ _ e => e)).trans m2 (fun _ _ e => e)).trans m3 (fun _ _ e => e))⟩
    rw [← e2, Bool.or_false, show (false || decide (8 < d)) = true from by simp [h8]]; exact q3
  have HFIN := Lib.hid hfin
  clear hfin
  cases gr with
  | true =>
    go_wp2_with fail
    go_quiet (fail)
    go_wp2_with fail
    go_quiet (fail)
    go_wp2_with fail
    go_ret
    exact HFIN.out _ true (by simp) (keeps_draws _ _)
  | false =>
    by_cases hx : x < 0
    · go_wp2_with fail
      go_quiet (fail)
      go_wp2_with fail
      go_quiet (fail)
      go_wp2_with fail
      go_ret
      exact HFIN.out _ true (by simp [hx]) (keeps_draws _ _)
    · by_cases hy : (4294967295 : Int) < x
      · go_wp2_with fail
        go_quiet (fail)
        go_wp2_with fail
        go_quiet (fail)
        go_wp2_with fail
        go_ret
        exact HFIN.out _ true (by simp [hy]) (keeps_draws _ _)
      · go_wp2_with fail
        go_quiet (fail)
        go_wp2_with fail
        go_quiet (fail)
        go_wp2_with fail
        go_ret
        have hq := fun n => HFIN.out (w1.drewN n) (decide (x < 0) || decide (4294967295 < x)) (by simp) (keeps_draws _ _)
        rw [show x % 4294967296 = x from by omega] at hq
        exact hq _
end Go.Proofs.YtiojnbhomjkkgaaGreatDoor

namespace Go.Proofs.YtiojnbhomjkkgaaGreatDoor
open Go.RowKit

set_option maxRecDepth 100000 in
set_option maxHeartbeats 8000000 in
theorem exp_prim_n2 (r : Nat) (L : List (Int × ByteArray × Int)) (d i : Nat) (gr dv : Bool) (w : World) (h8 : ¬ 8 < d) (h : RdrAt w r L i d false false gr dv) (hs : ¬ sgnT L i = ⟨#[40]⟩) (hlt : i < L.length) (hk : L[i].1 = 2) :
    Calls Tryz.prog 48 #[.pointer (some ⟨r, 0, none⟩)] w (RdOut r L .prim d i false gr dv w) := by
  have hsg := exp_sign r L i d false false gr dv w h
  unfold SignPost at hsg
  simp only [Bool.false_eq_true, if_false] at hsg
  have hnl : ((sgnT L i).toList == [40]) = false := by
    rw [beq_eq_false_iff_ne]; intro e; exact hs (text_of e)
  have HS := Lib.hid hs
  generalize sgnT L i = t at hsg hnl
  clear hs
  have h8a : ¬ (8 : Int) < (d : Int) := by omega
  go_enter Tryz.func48, Tryz.ntmps48
  go_wp2_with fail
  refine hsg.mono ?_
  rintro e w1 ⟨rfl, hr1, hk1⟩
  obtain ⟨c2, c3, c4, c5, c6, _, f2, f3, f4, f5, f6, _, rl, hb1, hb2, hb3⟩ := hr1.cells
  have HR1 := Lib.hid hr1
  obtain ⟨lv, g, bs, hH, ⟨a, cap, rfl, hsz, hTk⟩, _⟩ := hr1
  have c0 := hH.cell 0
  have HTK := Lib.hid hTk
  clear hH hTk hsz
  have hltI : (i : Int) < (L.length : Int) := by omega
  have hltI2 : ¬ ((L.length : Int) ≤ (i : Int)) := by omega
  obtain ⟨gt, ot, rfl, _, hc⟩ := HTK.out (by omega)
  obtain ⟨d0, d1, d2⟩ := hc i hlt
  have hat : L[i]? = some L[i] := List.getElem?_eq_getElem hlt
  have HAT := Lib.hid hat
  clear hc hat d1
  have hrd := rd_num (d := d) HS.out HAT.out hk
  rw [hk] at d0
  have HRD := Lib.hid hrd
  clear hrd hk
  generalize L[i].2.2 = x at *
  have hfin : ∀ (wx : World) (gr' : Bool), gr' = (gr || (decide (x < 0) || decide (4294967295 < x))) → Keeps (fun _ => False) w1 wx →
      RdOut r L .prim d i false gr dv w (.returned (.int .u32 (x % 4294967296))) (((wx.setCell ⟨r, 2, none⟩ (.int .i64 ((i : Int) + 1))).setCell ⟨r, 5, none⟩ (.bool (decide ((8 : Int) < (d : Int))))).setCell ⟨r, 6, none⟩ (.bool gr')) := by
    intro wx gr' e2 hkx
    obtain ⟨q1, m1⟩ := (HR1.out.keeps hkx).on (by omega)
    obtain ⟨q2, m2⟩ := q1.put 5 (.bool (decide ((8 : Int) < (d : Int)))) (i' := i + 1) (d' := d) (syn' := false) (dp' := (decide ((8 : Int) < (d : Int)))) (gr' := gr) (dv' := dv) (by omega) (by omega) (fun _ _ => rfl)
    obtain ⟨q3, m3⟩ := q2.put 6 (.bool gr') (i' := i + 1) (d' := d) (syn' := false) (dp' := (decide ((8 : Int) < (d : Int)))) (gr' := gr') (dv' := dv) (by omega) (by omega) (fun _ _ => rfl)
    refine .inl ⟨_, _, _, _, _, HRD.out, rfl, by omega, by omega, by omega, by omega, ?_, (((((keeps_r hk1).trans (keeps_r hkx) (fun _ _ e => e)).trans m1 (fun _ _ e => e)).trans m2 (fun _ _ e => e)).trans m3 (fun _ _ e => e))⟩
    rw [← e2, Bool.or_false, show (false || decide (8 < d)) = (decide ((8 : Int) < (d : Int))) from by (rw [Bool.false_or]; exact decide_eq_decide.2 (by omega))]; exact q3
  have HFIN := Lib.hid hfin
  clear hfin
  cases gr with
  | true =>
    go_wp2_with fail
    go_quiet (fail)
    go_wp2_with fail
    go_quiet (fail)
    go_wp2_with fail
    go_ret
    exact HFIN.out _ true (by simp) (keeps_draws _ _)
  | false =>
    by_cases hx : x < 0
    · go_wp2_with fail
      go_quiet (fail)
      go_wp2_with fail
      go_quiet (fail)
      go_wp2_with fail
      go_ret
      exact HFIN.out _ true (by simp [hx]) (keeps_draws _ _)
    · by_cases hy : (4294967295 : Int) < x
      · go_wp2_with fail
        go_quiet (fail)
        go_wp2_with fail
        go_quiet (fail)
        go_wp2_with fail
        go_ret
        exact HFIN.out _ true (by simp [hy]) (keeps_draws _ _)
      · go_wp2_with fail
        go_quiet (fail)
        go_wp2_with fail
        go_quiet (fail)
        go_wp2_with fail
        go_ret
        have hq := fun n => HFIN.out (w1.drewN n) (decide (x < 0) || decide (4294967295 < x)) (by simp) (keeps_draws _ _)
        rw [show x % 4294967296 = x from by omega] at hq
        exact hq _
end Go.Proofs.YtiojnbhomjkkgaaGreatDoor

namespace Go.Proofs.YtiojnbhomjkkgaaGreatDoor
open Go.RowKit

set_option maxRecDepth 100000 in
set_option maxHeartbeats 4000000 in
theorem exp_primary (r : Nat) (L : List (Int × ByteArray × Int)) (d i : Nat) (dp gr dv : Bool) (w : World) (h : RdrAt w r L i d false dp gr dv)
    (hW : i + 1 ≤ L.length → ∀ (dp gr dv : Bool) (w : World), RdrAt w r L (i + 1) (d + 1) false dp gr dv → Calls Tryz.prog 45 #[.pointer (some ⟨r, 0, none⟩)] w (RdOut r L .whole (d + 1) (i + 1) dp gr dv w)) :
    Calls Tryz.prog 48 #[.pointer (some ⟨r, 0, none⟩)] w (RdOut r L .prim d i dp gr dv w) := by
  have hsg := exp_sign r L i d false dp gr dv w h
  unfold SignPost at hsg
  simp only [Bool.false_eq_true, if_false] at hsg
  have HW := Lib.hid hW; clear hW
  by_cases hs : sgnT L i = ⟨#[40]⟩
  · have hi1 : i + 1 ≤ L.length := sgn_in (by rw [hs]; decide)
    have HS := Lib.hid hs
    rw [hs] at hsg
    clear hs
    go_enter Tryz.func48, Tryz.ntmps48
    go_wp2_with fail
    refine hsg.mono ?_
    rintro e w1 ⟨rfl, hr1, hk1⟩
    obtain ⟨c2, c3, _, _, _, _, f2, f3, _, _, _, _, rl, hb1, hb2, hb3⟩ := hr1.cells
    obtain ⟨hr2, hk2⟩ := hr1.on hi1
    obtain ⟨hr3, hk3⟩ := hr2.deeper (by omega)
    go_wp2_with fail
    refine (HW.out hi1 _ _ _ _ (by exact hr3)).mono ?_
    have hk4 := ((keeps_r hk1).trans hk2 (fun _ _ e => e)).trans hk3 (fun _ _ e => e)
    clear hr1 hr2 hr3 hk1 hk2 hk3 c2 c3 f2 f3
    rintro e w2 (⟨v, j, p, g, q, hrd, rfl, hv0, hv1, hj0, hj1, hr4, hk5⟩ | ⟨hrd, v, j, p, g, q, rfl, hv0, hv1, hr4, hk5⟩)
    · have hk6 := hk4.trans hk5 (fun _ _ e => e)
      obtain ⟨_, c3, _, _, _, _, _, f3, _, _, _, _, rl2, _, _, hb5⟩ := hr4.cells
      obtain ⟨hr5, hk7⟩ := hr4.back
      have hk8 := hk6.trans hk7 (fun _ _ e => e)
      have hex := exp_expect r L j d false _ _ _ ⟨#[41]⟩ _ hr5 (by decide)
      unfold ExpectPost at hex
      go_wp2_with fail
      refine hex.mono ?_
      rintro e w3 ⟨rfl, hk9, he1, he2⟩
      have HE1 := Lib.hid he1
      have HE2 := Lib.hid he2
      clear he1 he2
      go_wp2_with fail
      go_ret
      by_cases hc : sgnT L j = ⟨#[41]⟩
      · exact .inl ⟨v, j + 1, p, g, q, rd_par HS.out hrd hc, rfl, hv0, hv1, by omega, sgn_in (by rw [hc]; decide), HE1.out ⟨by trivial, hc⟩, hk8.trans hk9 (fun _ _ e => e)⟩
      · exact .inr ⟨rd_par_bad HS.out hrd hc, v, j, _, _, _, rfl, hv0, hv1, HE2.out (fun e => hc e.2), hk8.trans hk9 (fun _ _ e => e)⟩
    · have hk6 := hk4.trans hk5 (fun _ _ e => e)
      obtain ⟨_, c3, _, _, _, _, _, f3, _, _, _, _, rl2, _, _, hb5⟩ := hr4.cells
      obtain ⟨hr5, hk7⟩ := hr4.back
      have hk8 := hk6.trans hk7 (fun _ _ e => e)
      have hex := exp_expect r L j d true _ _ _ ⟨#[41]⟩ _ hr5 (by decide)
      unfold ExpectPost at hex
      go_wp2_with fail
      refine hex.mono ?_
      rintro e w3 ⟨rfl, hk9, he1, he2⟩
      have HE1 := Lib.hid he1
      have HE2 := Lib.hid he2
      clear he1 he2
      go_wp2_with fail
      go_ret
      exact .inr ⟨rd_par_none HS.out hrd, v, j, _, _, _, rfl, hv0, hv1, HE2.out (by simp), hk8.trans hk9 (fun _ _ e => e)⟩
  · by_cases hnum : ∃ hlt : i < L.length, L[i].1 = 2
    · obtain ⟨hlt, hk⟩ := hnum
      clear HW hsg
      cases dp with
      | true => exact exp_prim_n0 r L d i gr dv w h hs hlt hk
      | false =>
        by_cases h8 : 8 < d
        · exact exp_prim_n1 r L d i gr dv w h8 h hs hlt hk
        · exact exp_prim_n2 r L d i gr dv w h8 h hs hlt hk
    · have HNUM := Lib.hid hnum
      clear hnum
      have hnl : ((sgnT L i).toList == [40]) = false := by
        rw [beq_eq_false_iff_ne]; intro e; exact hs (text_of e)
      have HS := Lib.hid hs
      generalize sgnT L i = t at hsg hnl
      clear hs
      have hfail : ∀ wx : World, RdrAt wx r L i d false dp gr dv → Keeps (fun b => b = r) w wx → Rd L .prim d i none →
          RdOut r L .prim d i dp gr dv w (.returned (.int .u32 0)) (wx.setCell ⟨r, 4, none⟩ (.bool true)) := by
        intro wx hx kx hn
        obtain ⟨q1, m1⟩ := hx.put 4 (.bool true) (i' := i) (d' := d) (syn' := true) (dp' := dp) (gr' := gr) (dv' := dv) hx.cells.2.2.2.2.2.2.2.2.2.2.2.2.2.1 hx.cells.2.2.2.2.2.2.2.2.2.2.2.2.2.2.2 (fun _ _ => rfl)
        exact .inr ⟨hn, 0, i, dp, gr, dv, rfl, by omega, by omega, q1, kx.trans m1 (fun _ _ e => e)⟩
      have HFAIL := Lib.hid hfail
      clear hfail
      go_enter Tryz.func48, Tryz.ntmps48
      go_wp2_with fail
      refine hsg.mono ?_
      rintro e w1 ⟨rfl, hr1, hk1⟩
      obtain ⟨c2, c3, c4, c5, c6, _, f2, f3, f4, f5, f6, _, rl, hb1, hb2, hb3⟩ := hr1.cells
      have HR1 := Lib.hid hr1
      obtain ⟨lv, g, bs, hH, ⟨a, cap, rfl, hsz, hTk⟩, _⟩ := hr1
      have c0 := hH.cell 0
      have HTK := Lib.hid hTk
      clear hH hTk hsz
      by_cases hlt : i < L.length
      · have hltI : (i : Int) < (L.length : Int) := by omega
        have hltI2 : ¬ ((L.length : Int) ≤ (i : Int)) := by omega
        obtain ⟨gt, ot, rfl, _, hc⟩ := HTK.out (by omega)
        obtain ⟨d0, d1, d2⟩ := hc i hlt
        have hat : L[i]? = some L[i] := List.getElem?_eq_getElem hlt
        have HAT := Lib.hid hat
        clear hc hat d1
        have hk : ¬ L[i].1 = 2 := fun e => HNUM.out ⟨hlt, e⟩
        have hkb : (L[i].1 != 2) = true := by simpa using hk
        have hrd := rd_nonum (d := d) HS.out (by rw [HAT.out]; intro t' e; injection e with e; rw [← e]; exact hk)
        have HRD := Lib.hid hrd
        clear hrd hk
        generalize L[i].1 = kd at *
        go_wp2_with fail
        go_quiet (fail)
        go_wp2_with fail
        go_ret
        exact HFAIL.out _ (HR1.out.keeps (keeps_draws _ _)) ((keeps_r hk1).trans (keeps_r (keeps_draws _ _)) (fun _ _ e => e)) HRD.out
      · have hltI : ¬ (i : Int) < (L.length : Int) := by omega
        have hltI2 : (L.length : Int) ≤ (i : Int) := by omega
        have hrd := rd_nonum (d := d) HS.out (by rw [List.getElem?_eq_none (by omega)]; rintro t' ⟨⟩)
        have HRD := Lib.hid hrd
        clear hrd
        go_wp2_with fail
        go_quiet (fail)
        go_wp2_with fail
        go_ret
        exact HFAIL.out _ (HR1.out.keeps (keeps_draws _ _)) ((keeps_r hk1).trans (keeps_r (keeps_draws _ _)) (fun _ _ e => e)) HRD.out
end Go.Proofs.YtiojnbhomjkkgaaGreatDoor
