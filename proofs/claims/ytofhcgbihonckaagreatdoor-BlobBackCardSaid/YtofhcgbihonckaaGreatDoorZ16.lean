/- Contracts of bringupref03: walk. | Contracts of bringupref03: ordered. | Contracts of bringupref03: Check, the same as Check of tree. | Contracts of bringupref03: path, Path, find, begin. | Contracts of bringupref03: copied. An append of nothing, whatever its address. | Contracts of bringupref03: Sorted. | Contracts of bringupref03: Add. | Contracts of bringupref03: Put. -/
import Derived.Test.YtofhcgbihonckaaGreatDoorZ5
import Derived.Test.YtofhcgbihonckaaGreatDoorZ3
import Derived.Test.YtofhcgbihonckaaGreatDoorZ1
import Derived.Deep.DeepCutAuto
import Derived.Deep.CutBlock
import Derived.Deep.AppendLies
import Derived.Laws.AppendOwnNone
import Derived.ArgAppend

set_option linter.unusedVariables false
set_option linter.unusedSimpArgs false
set_option linter.unusedSectionVars false

namespace Go.Proofs.YtofhcgbihonckaaGreatDoor
open Go.RowKit

def natCells (l : List Nat) : List Value := l.map fun (k : Nat) => Value.int .i64 (k : Int)
theorem natCells_one (l : List Nat) : ∀ u ∈ natCells l, u.oneCell' = true := by
  intro u hu; obtain ⟨k, _, rfl⟩ := List.mem_map.1 hu; rfl
theorem natCells_len (l : List Nat) : (natCells l).length = l.length * 1 := by simp [natCells]
theorem infoIn : (Tryz.prog.info? 3).map (fun i => (i.zero, i.size, i.bytes)) = some (some (.int .i64 0), 1, 8) := by kernel_rfl
theorem flatMap_same {f g : Nat → List Nat} : ∀ l : List Nat, (∀ c ∈ l, f c = g c) → l.flatMap f = l.flatMap g
  | [], _ => rfl
  | x :: l, h => by rw [List.flatMap_cons, List.flatMap_cons, h x (by simp), flatMap_same l (fun c hc => h c (by simp [hc]))]
theorem walkR_fuel {T : List NodeT} (h : Par T) : ∀ (f g u : Nat), u < T.length → T.length ≤ u + f → T.length ≤ u + g → walkR T f u = walkR T g u := by
  intro f
  induction f with
  | zero => intro g u hu hf; omega
  | succ f ih =>
    intro g u hu hf hg
    obtain ⟨g, rfl⟩ : ∃ x, g = x + 1 := ⟨g - 1, by omega⟩
    simp only [walkR]
    congr 1
    refine flatMap_same _ fun c hc => ?_
    obtain ⟨h1, h2, h3⟩ := (kids_mem T u c).1 hc
    have := (h c h2 h1).2
    exact ih g c h1 (by omega) (by omega)
theorem drewN_two (w : World) (a b : Nat) : (w.drewN a).drewN b = w.drewN (a + b) := by
  unfold World.drewN; simp [Nat.add_assoc]
/-- How two names lie. -/
theorem name_order (c n : ByteArray) : (ltS n c = true ∧ Op.bytesLess c.toList n.toList = false ∧ (c.toList == n.toList) = false) ∨ (ltS n c = false ∧ Op.bytesLess c.toList n.toList = true) ∨ (ltS n c = false ∧ Op.bytesLess c.toList n.toList = false ∧ (c.toList == n.toList) = true) := by
  cases h : ltS n c with
  | true =>
    left
    refine ⟨rfl, ?_, ?_⟩
    · cases k : Op.bytesLess c.toList n.toList with
      | false => rfl
      | true => have := ltS_trans h k; rw [ltS_irrefl] at this; cases this
    · cases k : (c.toList == n.toList) with
      | false => rfl
      | true => have e := (eqS_iff c n).1 k; subst e; rw [ltS_irrefl] at h; cases h
  | false =>
    right
    rcases ltS_total h with e | e
    · subst e; right; exact ⟨rfl, ltS_irrefl n, by simp⟩
    · left; exact ⟨rfl, e⟩
theorem row_from {w : World} {base : Nat} {e : TypeId} {g n cap : Nat} {xs : List Value} (h : w.ownsRow base e 1 (.slice (some ⟨g, 0, none⟩) n cap) n xs) (p : Nat) : ∀ j u, (xs.drop p)[j]? = some u → w.cell? ((⟨g, p, none⟩ : Addr).add j) = some u := by
  intro j u hu
  have hadd : (⟨g, p, none⟩ : Addr).add j = ⟨g, p + j, none⟩ := by unfold Addr.add; split <;> simp_all
  rw [List.getElem?_drop] at hu
  have hj := (List.getElem?_eq_some_iff.1 hu).1
  rw [hadd, h.cellAt (p + j) (by have := h.1; omega), hu]
theorem row_upto {w : World} {base : Nat} {e : TypeId} {g n cap : Nat} {xs : List Value} (h : w.ownsRow base e 1 (.slice (some ⟨g, 0, none⟩) n cap) n xs) (p : Nat) : ∀ j u, (xs.take p)[j]? = some u → w.cell? ((⟨g, 0, none⟩ : Addr).add j) = some u := by
  intro j u hu
  have hadd : (⟨g, 0, none⟩ : Addr).add j = ⟨g, j, none⟩ := by unfold Addr.add; split <;> simp_all
  have hj := (List.getElem?_eq_some_iff.1 hu).1
  simp at hj
  rw [List.getElem?_take, if_pos (by omega)] at hu
  rw [hadd, h.cellAt j (by have := h.1; omega), hu]
theorem natCells_drop (l : List Nat) (p : Nat) : natCells (l.drop p) = (natCells l).drop p := by simp [natCells, List.map_drop]
theorem natCells_take (l : List Nat) (p : Nat) : natCells (l.take p) = (natCells l).take p := by simp [natCells, List.map_take]
def WalkPost (T : List NodeT) (u : Nat) (w : World) (e : Ending) (w' : World) : Prop :=
  ∃ rv, e = .returned rv ∧ w'.ownsRow w.heap.size 3 1 rv (walkR T (T.length - u) u).length (natCells (walkR T (T.length - u) u)) ∧ Below w.heap.size w w'
theorem posK_cons (T : List NodeT) (i c : Nat) (l : List Nat) : posK T i (c :: l) = if ltS (nameOf T i) (nameOf T c) = true then 0 else 1 + posK T i l := by
  unfold posK
  by_cases h : ltS (nameOf T i) (nameOf T c) = true
  · simp [h]
  · simp [h]; omega
theorem posK_drop (T : List NodeT) (i : Nat) (l : List Nat) (p : Nat) (hp : p < l.length) : posK T i (l.drop p) = if ltS (nameOf T i) (nameOf T l[p]) = true then 0 else 1 + posK T i (l.drop (p + 1)) := by
  rw [List.drop_eq_getElem_cons hp, posK_cons]
def KidsRel (T : List NodeT) (u : Nat) (w : World) (a : Option Addr) (cap : Nat) (f : Nat) (x y : Value) (wr : World) : Prop :=
  ∃ k : Nat, x = .int .i64 k ∧ k ≤ T.length ∧ T.length ≤ k + f ∧ wr.ownsRow (w.heap.size + 1 + 1) 3 1 y (kidsF T u k).length (natCells (kidsF T u k)) ∧ (kidsF T u k = [] → y = .slice none 0 0) ∧
    Holds wr w.heap.size #[.slice a T.length cap] 25 ∧ Holds wr (w.heap.size + 1) #[.int .i64 u] 3 ∧ Below w.heap.size w wr

theorem flat_take {f : Nat → List Nat} (l : List Nat) (j : Nat) : ((l.take j).flatMap f).length ≤ (l.flatMap f).length := by
  have h : l.flatMap f = (l.take j).flatMap f ++ (l.drop j).flatMap f := by rw [← List.flatMap_append, List.take_append_drop]
  rw [h, List.length_append]; omega
theorem flat_more {f : Nat → List Nat} (l : List Nat) (j : Nat) (h : j < l.length) : (l.take (j + 1)).flatMap f = (l.take j).flatMap f ++ f l[j] := by
  rw [List.take_succ_eq_append_getElem h, List.flatMap_append]; simp
def OutRel (T : List NodeT) (u : Nat) (w : World) (a : Option Addr) (cap : Nat) (cv : Value) (f : Nat) (x y : Value) (wr : World) : Prop :=
  ∃ j : Nat, x = .int .i64 j ∧ j ≤ (kidsS T u).length ∧ (kidsS T u).length ≤ j + f ∧
    wr.ownsRow (w.heap.size + 1) 3 1 y (u :: ((kidsS T u).take j).flatMap (walkR T (T.length - u - 1))).length (natCells (u :: ((kidsS T u).take j).flatMap (walkR T (T.length - u - 1)))) ∧
    wr.ownsRow (w.heap.size + 1 + 1) 3 1 cv (kidsS T u).length (natCells (kidsS T u)) ∧ (cv.ownBlock = none ∨ cv.ownBlock ≠ y.ownBlock) ∧ Holds wr w.heap.size #[.slice a T.length cap] 25 ∧ Below w.heap.size w wr

set_option maxRecDepth 100000 in
set_option maxHeartbeats 8000000 in
theorem ref3_walk (R : Nat → Prop) (v : Value) (T : List NodeT) (hpar : Par T) (hl : T.length ≤ 120) : ∀ (m u : Nat) (w : World), NodesIn R w v T → u < T.length → T.length - u ≤ m →
    Calls Tryz.prog 84 #[.agg #[v], .int .i64 u] w (WalkPost T u w) := by
  intro m
  induction m with
  | zero => intro u w _ hu hm; omega
  | succ m ih =>
    intro u w hT hu hm
    obtain ⟨a, cap, rfl, hc1, hc2⟩ := hT.shape
    have HT := Lib.hid hT; clear hT
    have HP := Lib.hid hpar
    have IH := Lib.hid ih; clear ih
    clear hpar
    go_enter Tryz.func84, Tryz.ntmps84
    go_wp2_with fail
    go_loopg [18, 6] (T.length) (fun f x y wr => KidsRel T u w a cap f x y wr)
    case atStart => exact ⟨0, rfl, by omega, by omega, by exact World.ownsRow_nil _ _ _ _, fun _ => rfl, (Holds.new w _ _).alloc _, Holds.newAt (w := w.alloc _) (by simp) _ _, ((Below.refl _ _).alloc (Nat.le_refl _) _).alloc (by simp) _⟩
    case round =>
      obtain ⟨go, rfl⟩ : ∃ x : Nat, x = gk := ⟨_, rfl⟩
      obtain ⟨wo, rfl⟩ : ∃ x : World, x = wr := ⟨_, rfl⟩
      obtain ⟨k, rfl, hk, hf, hown, hnil, hX, hO, hb⟩ := hrel
      obtain ⟨cv, rfl⟩ : ∃ x : Value, x = u6 := ⟨_, rfl⟩
      have hbs := hb.size
      by_cases hlt : k < T.length
      · obtain ⟨g, o, pa, pc, rfl, hg, c0, c1, c2, hp, p1, p2, b0, b1, b2⟩ := (HT.out.new hb).at k hlt
        by_cases hkid : k ≠ 0 ∧ parOf T k = (u : Int)
        · obtain ⟨hk0, hku⟩ := hkid
          have hkc := Lib.hid (show kidsF T u (k + 1) = insK T k (kidsF T u k) from by simp only [kidsF]; rw [if_pos ⟨hk0, hku⟩])
          have e1 : (T[k].parent != (u : Int)) = false := by rw [parOf_at hlt] at hku; simp [hku]
          have e2 : ((k : Int) == 0) = false := by simp; omega
          clear hk0 hku
          have hkl := (kidsF_spec T u k).1
          have hkn := kidsF_len T u k
          have HKL := Lib.hid (show ∀ (p : Nat) (hp : p < (kidsF T u k).length), (kidsF T u k)[p] < T.length from fun p hp => by have := ((hkl _).1 (List.getElem_mem hp)).1; omega)
          clear hkl
          have HNIL := Lib.hid hnil
          clear hnil
          generalize kidsF T u k = l at *
          have hXn := hX.alloc (.cells #[.int .i64 T[k].parent, .string T[k].name, .slice pa T[k].props.length pc] 52)
          have hNn := Holds.new wo #[.int .i64 T[k].parent, .string T[k].name, .slice pa T[k].props.length pc] 52
          have hbn := hb.alloc hbs (.cells #[.int .i64 T[k].parent, .string T[k].name, .slice pa T[k].props.length pc] 52)
          have hownn := World.ownsRow.alloc hown (.cells #[.int .i64 T[k].parent, .string T[k].name, .slice pa T[k].props.length pc] 52)
          go_upto_block 2 with fail
          go_cut [9] (fun y wx => ∃ n, y = .int .i64 (posK T k l) ∧ (wo.alloc (.cells #[.int .i64 T[k].parent, .string T[k].name, .slice pa T[k].props.length pc] 52)).drewN n = wx)
          case first =>
            obtain ⟨ca, cc, rfl⟩ := row_slice hownn
            go_wp2_with fail
            go_loopg [9] (l.length) (fun f y wx => ∃ p n : Nat, y = .int .i64 p ∧ p ≤ l.length ∧ l.length ≤ p + f ∧ Hid (posK T k l = p + posK T k (l.drop p)) ∧ (wo.alloc (.cells #[.int .i64 T[k].parent, .string T[k].name, .slice pa T[k].props.length pc] 52)).drewN n = wx)
            case atStart => exact ⟨0, 0, rfl, by omega, by omega, by simp [Hid], rfl⟩
            case round =>
              obtain ⟨p, n, rfl, hp, hf2, hS, rfl⟩ := hrel
              have x0 := hXn.cell 0
              have xl := hXn.lt
              by_cases hpl : p < l.length
              · have hpI : (p : Int) < (l.length : Int) := by omega
                obtain ⟨cg, hcg⟩ : ∃ cg, ca = some ⟨cg, 0, none⟩ := by
                  rcases hownn.2 with ⟨_, h0⟩ | ⟨g', cp, cur, e, _⟩
                  · omega
                  · exact ⟨g', by cases e; rfl⟩
                subst hcg
                have hcl := (hownn.lt cg rfl).2
                have hcc := hownn.cellAt p (by omega)
                rw [show (natCells l)[p]? = some (.int .i64 (l[p] : Int)) from by simp [natCells, hpl]] at hcc
                have hlt2 := HKL.out p hpl
                obtain ⟨g', o', pa', pc', e', hg', d0, d1, d2, hp', q1, q2, r0, r1, r2⟩ := (HT.out.new hbn).at (l[p]) hlt2
                cases e'
                have hstep := Lib.hid (posK_drop T k l p hpl)
                have n1 := hNn.cell 1
                have hnl := hNn.lt
                clear hp' d0 d2
                have hord := name_order (T[l[p]]).name T[k].name
                rcases hord with ⟨hlt3, o1, o2⟩ | ⟨hlt3, o1⟩ | ⟨hlt3, o1, o2⟩
                · have hE := Lib.hid (show posK T k l = p from by rw [hS.out, hstep.out, if_pos (by rw [nameOf_at hlt, nameOf_at hlt2]; exact hlt3)]; omega)
                  clear hlt3
                  go_wp2_with fail
                  go_quiet (fail)
                  go_wp2_with fail
                  go_meet
                  exact ⟨_, by rw [hE.out], (drewN_two _ _ _).symm⟩
                all_goals
                  have hE := Lib.hid (show posK T k l = (p + 1 : Nat) + posK T k (l.drop (p + 1)) from by rw [hS.out, hstep.out, if_neg (by rw [nameOf_at hlt, nameOf_at hlt2, hlt3]; simp)]; omega)
                  clear hlt3
                  go_wp2_with fail
                  go_quiet (fail)
                  go_wp2_with fail
                  go_roundg (gk - 1)
                  case measure => omega
                  case rel => exact ⟨p + 1, _, by go_num, by omega, by omega, hE, rfl⟩
              · have hpI : ¬ (p : Int) < (l.length : Int) := by omega
                have hE := Lib.hid (show posK T k l = p from by rw [hS.out, List.drop_eq_nil_of_le (by omega)]; rfl)
                have hd : decide ((p : Int) < (l.length : Int)) = false := by simpa using hpI
                go_wp2_with fail
                go_quiet (fail)
                go_wp2_with fail
                go_meet
                exact ⟨_, by rw [hE.out], (drewN_two _ _ _).symm⟩
          case rest =>
            obtain ⟨n, rfl, hw⟩ := hcut
            have hXq : Holds wc w.heap.size #[.slice (some ⟨g, o, none⟩) T.length cap] 25 := by rw [← hw]; exact hXn.drewN n
            have hOq : Holds wc (w.heap.size + 1) #[.int .i64 u] 3 := by rw [← hw]; exact (hO.alloc _).drewN n
            have hbq : Below w.heap.size w wc := by rw [← hw]; exact below_draws hbn n
            have hownq : wc.ownsRow (w.heap.size + 1 + 1) 3 1 cv l.length (natCells l) := by rw [← hw]; exact hownn
            clear hw hXn hNn hbn hownn hX hO hb hown HKL c0 c1 c2
            have hsq := hbq.size
            have hpl : posK T k l ≤ l.length := (List.takeWhile_sublist _).length_le
            have hins := Lib.hid (show insK T k l = l.take (posK T k l) ++ k :: l.drop (posK T k l) from rfl)
            obtain ⟨i0, hi, hz0, hz1, hz2⟩ := info_parts infoIn
            by_cases hl0 : l = []
            · have hcv := HNIL.out hl0
              subst hcv
              subst hl0
              have hp0 : posK T k [] = 0 := rfl
              rw [hp0]
              clear hp0 hownq hpl
              go_wp2_with (first
                | (at_builtin; refine wpList_append_own_none rfl (.tmp 52) (.tmp 55) 22 rfl wc.heap.size 3 i0 1 Tryz.underlying22 hi (.slice (some ⟨wc.heap.size, 0, none⟩) 1 1) 1 [.int .i64 k] rfl (by exact row_built (n := 1) rfl (Nat.le_refl _) rfl (by omega)) rfl ?_)
                | (at_builtin; refine wpList_append_own _ rfl (.tmp 60) (.tmp 61) 22 rfl (w.heap.size + 1 + 1) 3 i0 (.int .i64 0) 1 8 Tryz.underlying22 hi hz0 hz1 hz2 rfl (by decide) (.slice none 0 0) 0 [] rfl (World.ownsRow_nil _ _ _ _) ⟨wc.heap.size, 0, none⟩ 1 1 [.int .i64 k] rfl rfl ?c1 ?c2 ?c3 ?c4 ?c5 ?_))
              case c2 => rfl
              case c3 => unfold maxLen; omega
              case c5 => have := hOq.lt; simp; omega
              intro v' w6 hown' hgrow _
              have hX6 := (hXq.alloc (.cells #[.int .i64 k] 3)).grown hgrow (by simp [Value.ownBlock])
              have hO6 := (hOq.alloc (.cells #[.int .i64 k] 3)).grown hgrow (by simp [Value.ownBlock])
              have hb6 := (hbq.alloc hsq (.cells #[.int .i64 k] 3)).grown hgrow (by simp; omega) (fun q hq => by simp [Value.ownBlock] at hq)
              clear hgrow
              obtain ⟨va, vc, rfl⟩ := row_slice hown'
              go_wp2_with fail
              go_roundg (go - 1)
              case measure => omega
              case rel => exact ⟨k + 1, by go_num, by omega, by omega, by rw [hkc.out]; exact hown', (fun e => by rw [hkc.out] at e; cases e), hX6, hO6, hb6⟩
            · obtain ⟨cg, cc, hcv, hccl, hccm⟩ : ∃ cg cc, cv = .slice (some ⟨cg, 0, none⟩) l.length cc ∧ l.length ≤ cc ∧ cc ≤ maxLen := by
                rcases hownq.2 with ⟨_, h0⟩ | ⟨g', cp, cur, e, _, _, h1, h2, _⟩
                · exact absurd (List.length_eq_zero_iff.1 h0) hl0
                · exact ⟨g', cp, e, h1, h2⟩
              subst hcv
              unfold maxLen at hccm
              generalize posK T k l = p at *
              clear hl0
              have HOW := Lib.hid hownq
              clear hownq
              by_cases hcp : cc = p
              · obtain rfl : p = l.length := by omega
                obtain rfl : cc = l.length := by omega
                go_wp2_with (at_builtin; refine wpList_append_own _ rfl (.tmp 52) (.tmp 55) 22 rfl wc.heap.size 3 i0 (.int .i64 0) 1 8 Tryz.underlying22 hi hz0 hz1 hz2 rfl (by decide) (.slice (some ⟨wc.heap.size, 0, none⟩) 1 1) 1 [.int .i64 k] rfl (by exact row_built (n := 1) rfl (Nat.le_refl _) rfl (by omega)) ⟨cg, 0, none⟩ 0 0 [] rfl (by simp) ?a1 ?a2 ?a3 ?a4 ?a5 ?_)
                case a3 => unfold maxLen; omega
                intro v10 w10 hown10 hgrow10 _
                have hX10 := (hXq.alloc (.cells #[.int .i64 k] 3)).grown hgrow10 (fun e => by have : wc.heap.size = w.heap.size := Option.some.inj e; have := hXq.lt; omega)
                have hO10 := (hOq.alloc (.cells #[.int .i64 k] 3)).grown hgrow10 (fun e => by have : wc.heap.size = w.heap.size + 1 := Option.some.inj e; have := hOq.lt; omega)
                have hbx : Below wc.heap.size wc w10 := ((Below.refl wc.heap.size wc).alloc (Nat.le_refl _) (.cells #[.int .i64 k] 3)).grown hgrow10 (by simp) (fun q hq => by have : wc.heap.size = q := Option.some.inj hq; omega)
                have hrow10 := row_new HOW.out hbx
                have hb10 := hbq.trans (hbx.mono hsq)
                clear hgrow10
                obtain ⟨rg, rc, rfl, hr1, hr2⟩ := hown10.form (by omega)
                have HO10 := Lib.hid hown10
                have HR10 := Lib.hid hrow10
                have hs10 := hb10.size
                have hO10l := hO10.lt
                clear hown10 hrow10
                go_wp2_with (at_builtin; refine wpList_append_grows _ rfl (.tmp 60) (.tmp 61) 22 rfl 3 i0 (.int .i64 0) 1 8 Tryz.underlying22 hi hz0 hz1 hz2 rfl (by decide) (some ⟨cg, 0, none⟩) l.length l.length (natCells (l.take l.length)) rfl (by intro h; cases h) ?e0 ?e1 ⟨rg, 0, none⟩ 1 rc ([.int .i64 k]) rfl ?e2 ?e3 ?e4 ?e5 ?e6 ?e7 ?_)
                case e0 => simp [natCells]
                case e1 => intro b hb2; cases hb2; rw [natCells_take]; exact row_upto HR10.out l.length
                case e2 => simp
                case e3 => exact HO10.out.cells (g := rg) rfl
                case e4 =>
                  intro x hx
                  simp at hx; subst hx; rfl
                case e5 => omega
                case e6 => unfold maxLen; omega
                case e7 => omega
                intro v11 w11 hown11 hgrow11
                have hX11 := hX10.grown hgrow11 (by simp)
                have hO11 := hO10.grown hgrow11 (by simp)
                have hb11 := hb10.grown hgrow11 hs10 (fun q hq => by cases hq)
                clear hgrow11
                obtain ⟨va, vc, rfl⟩ := row_slice hown11
                have hown12 := row_base hown11 (show w.heap.size + 1 + 1 ≤ w10.heap.size by omega)
                go_wp2_with fail
                go_roundg (go - 1)
                case measure => omega
                case rel => exact ⟨k + 1, by go_num, by omega, by omega, by rw [hkc.out, insK_len, hins.out]; simpa [natCells] using hown12, (fun e => by rw [hkc.out] at e; have := congrArg List.length e; rw [insK_len] at this; simp at this), hX11, hO11, hb11⟩
              · have hpc : p < cc := by omega
                go_wp2_with (at_builtin; refine wpList_append_own _ rfl (.tmp 52) (.tmp 55) 22 rfl wc.heap.size 3 i0 (.int .i64 0) 1 8 Tryz.underlying22 hi hz0 hz1 hz2 rfl (by decide) (.slice (some ⟨wc.heap.size, 0, none⟩) 1 1) 1 [.int .i64 k] rfl (by exact row_built (n := 1) rfl (Nat.le_refl _) rfl (by omega)) ⟨cg, p, none⟩ (l.length - p) (cc - p) (natCells (l.drop p)) rfl (by simp [natCells]) ?b1 ?b2 ?b3 ?b4 ?b5 ?_)
                case b1 => rw [natCells_drop]; exact row_from (World.ownsRow.alloc HOW.out _) p
                case b2 => exact natCells_one _
                case b3 => unfold maxLen; omega
                case b4 => omega
                case b5 => simp
                intro v10 w10 hown10 hgrow10 _
                have hX10 := (hXq.alloc (.cells #[.int .i64 k] 3)).grown hgrow10 (fun e => by have : wc.heap.size = w.heap.size := Option.some.inj e; have := hXq.lt; omega)
                have hO10 := (hOq.alloc (.cells #[.int .i64 k] 3)).grown hgrow10 (fun e => by have : wc.heap.size = w.heap.size + 1 := Option.some.inj e; have := hOq.lt; omega)
                have hbx : Below wc.heap.size wc w10 := ((Below.refl wc.heap.size wc).alloc (Nat.le_refl _) (.cells #[.int .i64 k] 3)).grown hgrow10 (by simp) (fun q hq => by have : wc.heap.size = q := Option.some.inj hq; omega)
                have hrow10 := row_new HOW.out hbx
                have hb10 := hbq.trans (hbx.mono hsq)
                clear hgrow10
                obtain ⟨rg, rc, rfl, hr1, hr2⟩ := hown10.form (by omega)
                have HO10 := Lib.hid hown10
                have HR10 := Lib.hid hrow10
                have hs10 := hb10.size
                have hO10l := hO10.lt
                clear hown10 hrow10
                go_wp2_with (at_builtin; refine wpList_append_grows _ rfl (.tmp 60) (.tmp 61) 22 rfl 3 i0 (.int .i64 0) 1 8 Tryz.underlying22 hi hz0 hz1 hz2 rfl (by decide) (some ⟨cg, 0, none⟩) p p (natCells (l.take p)) rfl (by intro h; cases h) ?q0 ?q1 ⟨rg, 0, none⟩ (1 + (l.length - p)) rc ([.int .i64 k] ++ natCells (l.drop p)) rfl ?q2 ?q3 ?q4 ?q5 ?q6 ?q7 ?_)
                case q0 => simp [natCells]; omega
                case q1 => intro b hb2; cases hb2; rw [natCells_take]; exact row_upto HR10.out p
                case q2 => simp [natCells]; omega
                case q3 => exact HO10.out.cells (g := rg) rfl
                case q4 =>
                  intro x hx
                  rcases List.mem_append.1 hx with hx | hx
                  · simp at hx; subst hx; rfl
                  · exact natCells_one _ x hx
                case q5 => omega
                case q6 => unfold maxLen; omega
                case q7 => omega
                intro v11 w11 hown11 hgrow11
                rw [show p + (1 + (l.length - p)) = l.length + 1 from by omega] at hown11
                have hX11 := hX10.grown hgrow11 (by simp)
                have hO11 := hO10.grown hgrow11 (by simp)
                have hb11 := hb10.grown hgrow11 hs10 (fun q hq => by cases hq)
                clear hgrow11
                obtain ⟨va, vc, rfl⟩ := row_slice hown11
                have hown12 := row_base hown11 (show w.heap.size + 1 + 1 ≤ w10.heap.size by omega)
                go_wp2_with fail
                go_roundg (go - 1)
                case measure => omega
                case rel => exact ⟨k + 1, by go_num, by omega, by omega, by rw [hkc.out, insK_len, hins.out]; simpa [natCells] using hown12, (fun e => by rw [hkc.out] at e; have := congrArg List.length e; rw [insK_len] at this; simp at this), hX11, hO11, hb11⟩
        · have hkc := Lib.hid (show kidsF T u (k + 1) = kidsF T u k from by simp only [kidsF]; rw [if_neg hkid])
          have hrel2 : KidsRel T u w (some ⟨g, o, none⟩) cap (go - 1) (.int .i64 ((k + 1 : Nat) : Int)) cv (wo.alloc (.cells #[.int .i64 T[k].parent, .string T[k].name, .slice pa T[k].props.length pc] 52)) :=
            ⟨k + 1, rfl, by omega, by omega, by rw [hkc.out]; exact hown.alloc _, by rw [hkc.out]; exact hnil, hX.alloc _, hO.alloc _, hb.alloc hbs _⟩
          have HR2 := Lib.hid hrel2
          clear hrel2 hown hnil
          by_cases e1 : T[k].parent = (u : Int)
          · have hk0 : k = 0 := by
              by_cases h0 : k = 0
              · exact h0
              · exact absurd ⟨h0, by rw [parOf_at hlt]; exact e1⟩ hkid
            have e2 : (T[k].parent != (u : Int)) = false := by simp [e1]
            have e3 : ((k : Int) == 0) = true := by simp; omega
            clear hkid e1 hk0
            go_wp2_with fail
            go_roundg (go - 1)
            case measure => omega
            case rel => exact HR2.out
          · have e2 : (T[k].parent != (u : Int)) = true := by simpa using e1
            clear hkid e1
            go_wp2_with fail
            go_roundg (go - 1)
            case measure => omega
            case rel => exact HR2.out
      · have hke : k = T.length := by omega
        have hown2 : wo.ownsRow (w.heap.size + 1 + 1) 3 1 cv (kidsS T u).length (natCells (kidsS T u)) := by unfold kidsS; rw [← hke]; exact hown
        obtain ⟨ca, cc, rfl⟩ := row_slice hown2
        have hO2 : wo.ownsRow (w.heap.size + 1) 3 1 (.slice (some ⟨w.heap.size + 1, 0, none⟩) 1 1) 1 [.int .i64 u] := ⟨rfl, .inr ⟨w.heap.size + 1, 1, _, rfl, Nat.le_refl _, hO, by omega, by unfold maxLen; omega, rfl, rfl⟩⟩
        have hne : (Value.slice ca (kidsS T u).length cc).ownBlock = none ∨ (Value.slice ca (kidsS T u).length cc).ownBlock ≠ (Value.slice (some ⟨w.heap.size + 1, 0, none⟩) 1 1).ownBlock := by
          cases ca with
          | none => exact .inl rfl
          | some q => right; intro e; have := (hown2.lt q.block rfl).1; have e2 : q.block = w.heap.size + 1 := Option.some.inj e; omega
        clear hown hnil hO hke
        have hkb : (kidsS T u).length ≤ T.length := kidsF_len T u T.length
        have hk0 := fun c hc => kids_mem T u c |>.1 hc
        have HKM := Lib.hid hk0
        clear hk0
        go_wp2_with fail
        go_loopg [66, 5] ((kidsS T u).length) (fun f x y wr => OutRel T u w a cap (.slice ca (kidsS T u).length cc) f x y wr)
        case atStart => exact ⟨0, rfl, by omega, by omega, by exact hO2, hown2, hne, hX, hb⟩
        case round =>
          obtain ⟨j, rfl, hj, hf3, ho, hc, hne2, hX2, hb2⟩ := hrel
          clear hO2 hown2 hne hX hb
          by_cases hjl : j < (kidsS T u).length
          · have hwl := walkR_len HP.out (T.length - u) u hu (by omega)
            have hkc := HKM.out _ (List.getElem_mem hjl)
            have hcl := (HP.out (kidsS T u)[j] hkc.2.1 hkc.1).2
            rw [hkc.2.2] at hcl
            have hun := Lib.hid (show walkR T (T.length - u) u = u :: (kidsS T u).flatMap (walkR T (T.length - u - 1)) from by
              obtain ⟨q, hq⟩ : ∃ q, T.length - u = q + 1 := ⟨T.length - u - 1, by omega⟩
              rw [hq]; rfl)
            have hmo := Lib.hid (flat_more (f := walkR T (T.length - u - 1)) (kidsS T u) j hjl)
            have hft := flat_take (f := walkR T (T.length - u - 1)) (kidsS T u) (j + 1)
            have hfu := Lib.hid (walkR_fuel HP.out (T.length - (kidsS T u)[j]) (T.length - u - 1) (kidsS T u)[j] hkc.1 (by omega) (by omega))
            have hwl2 := walkR_len HP.out (T.length - (kidsS T u)[j]) (kidsS T u)[j] hkc.1 (by omega)
            rw [hun.out] at hwl
            rw [hmo.out, List.length_append, ← hfu.out] at hft
            simp only [List.length_cons] at hwl
            obtain ⟨cg, hcg⟩ : ∃ cg, ca = some ⟨cg, 0, none⟩ := by
              rcases hc.2 with ⟨_, h0⟩ | ⟨g', cp, cur, e, _⟩
              · omega
              · exact ⟨g', by cases e; rfl⟩
            subst hcg
            have hcc := hc.cellAt j (by omega)
            rw [show (natCells (kidsS T u))[j]? = some (.int .i64 ((kidsS T u)[j] : Int)) from by simp [natCells, hjl]] at hcc
            have hcl2 := (hc.lt cg rfl).2
            have x0 := hX2.cell 0
            have xl := hX2.lt
            have hihc := Lib.hid (fun wx hx => IH.out (kidsS T u)[j] wx hx hkc.1 (by omega))
            have hpos : 0 < (walkR T (T.length - (kidsS T u)[j]) (kidsS T u)[j]).length := by
              obtain ⟨q, hq⟩ : ∃ q, T.length - (kidsS T u)[j] = q + 1 := ⟨T.length - (kidsS T u)[j] - 1, by omega⟩
              rw [hq]; simp [walkR]
            clear hkc HKM hcl
            have hol : (u :: ((kidsS T u).take j).flatMap (walkR T (T.length - u - 1))).length + (walkR T (T.length - (kidsS T u)[j]) (kidsS T u)[j]).length ≤ 120 := by simp only [List.length_cons]; omega
            have hnx := Lib.hid (show u :: ((kidsS T u).take (j + 1)).flatMap (walkR T (T.length - u - 1)) = (u :: ((kidsS T u).take j).flatMap (walkR T (T.length - u - 1))) ++ walkR T (T.length - (kidsS T u)[j]) (kidsS T u)[j] from by rw [hmo.out, hfu.out]; rfl)
            clear hft hwl hwl2
            unfold WalkPost at hihc
            have hj1 := Lib.hid (show j + 1 ≤ (kidsS T u).length from hjl)
            have hj2 := Lib.hid (show (kidsS T u).length ≤ j + 1 + (gk - 1) from by omega)
            generalize walkR T (T.length - (kidsS T u)[j]) (kidsS T u)[j] = wk at *
            generalize (kidsS T u)[j] = c at *
            generalize (u :: ((kidsS T u).take j).flatMap (walkR T (T.length - u - 1))) = ol at *
            obtain ⟨oa, oc, rfl⟩ := row_slice ho
            obtain ⟨i0, hi, hz0, hz1, hz2⟩ := info_parts infoIn
            have HO := Lib.hid ho; have HC := Lib.hid hc; have HNE := Lib.hid hne2
            clear ho hc hne2
            have hs2 := hb2.size
            go_wp2_with fail
            refine (hihc.out _ (by exact HT.out.new hb2)).mono ?_
            rintro e w3 ⟨rv, rfl, hor, hb3⟩
            have hO3 := Lib.hid (row_new HO.out hb3)
            have hC3 := row_new HC.out hb3
            have hX3 := hX2.keeps (Keeps.of_fresh hb3 (fun _ => False)) (fun e => e)
            have hs3 := hb3.size
            have hcl3 := (hC3.lt cg rfl).2
            obtain ⟨rg, rc, rfl, hr1, hr2⟩ := hor.form hpos
            have HOR := Lib.hid hor
            clear hor x0 xl hcc
            go_wp2_with (at_builtin; refine wpList_append_lies _ rfl (.tmp 70) (.tmp 73) 22 rfl (w.heap.size + 1) 3 i0 (.int .i64 0) 1 8 Tryz.underlying22 hi hz0 hz1 hz2 rfl (by decide) (.slice oa ol.length oc) ol.length (natCells ol) rfl (by exact hO3.out) ⟨rg, 0, none⟩ wk.length rc (natCells wk) rfl ?z1 ?z2 ?z3 ?z4 ?z5 ?z6 ?z7 w3.heap.size ?z8 ?_)
            case z1 => exact natCells_len wk
            case z2 => exact HOR.out.cells (g := rg) rfl
            case z3 => exact natCells_one wk
            case z4 => exact hpos
            case z5 => unfold maxLen; omega
            case z6 => omega
            case z7 => omega
            case z8 => rfl
            intro gg gc w4 hown4 hgrow4 hat4 hlt4
            have hX4 := hX3.grown hgrow4 (by
              intro e
              have := (hO3.out.lt w.heap.size e).1
              omega)
            have hC4 := hC3.kept hgrow4 HNE.out
            have hb4 := (hb2.trans (hb3.mono hs2)).grown hgrow4 (by omega) (fun q hq => by have := (hO3.out.lt q hq).1; omega)
            have hne4 : (Value.slice (some ⟨cg, 0, none⟩) (kidsS T u).length cc).ownBlock ≠ (Value.slice (some ⟨gg, 0, none⟩) (ol.length + wk.length) gc).ownBlock := by
              intro e
              have e2 : cg = gg := Option.some.inj e
              rcases hat4 with h | h
              · rcases HNE.out with h2 | h2
                · cases h2
                · exact h2 (by rw [h]; show some cg = some gg; rw [e2])
              · omega
            go_wp2_with fail
            go_roundg (gk - 1)
            case measure => omega
            case rel => exact ⟨j + 1, by go_num, hj1.out, hj2.out, by rw [hnx.out, List.length_append]; simpa [natCells] using hown4, hC4, .inr (by simpa using hne4), hX4, hb4⟩
          · have hje : j = (kidsS T u).length := by omega
            have hfin := Lib.hid (show u :: ((kidsS T u).take j).flatMap (walkR T (T.length - u - 1)) = walkR T (T.length - u) u from by
              obtain ⟨q, hq⟩ : ∃ q, T.length - u = q + 1 := ⟨T.length - u - 1, by omega⟩
              rw [hq, List.take_of_length_le (by omega)]; rfl)
            rw [hfin.out] at ho
            obtain ⟨oa, oc, rfl⟩ := row_slice ho
            clear hje
            go_wp2_with fail
            go_ret
            exact ⟨_, rfl, row_base ho (by omega), hb2⟩
end Go.Proofs.YtofhcgbihonckaaGreatDoor

namespace Go.Proofs.YtofhcgbihonckaaGreatDoor
open Go.RowKit

set_option maxHeartbeats 4000000 in
theorem ref3_ordered (R : Nat → Prop) (v : Value) (T : List NodeT) (w : World) (hT : NodesIn R w v T) (hn : namedT T = true) (hl0 : 0 < T.length) (hl : T.length ≤ 120) :
    Calls Tryz.prog 67 #[.agg #[v]] w fun e w' => e = .returned (.bool (walkedT T)) ∧ Below w.heap.size w w' := by
  obtain ⟨a, cap, rfl, hc1, hc2⟩ := hT.shape
  have HT := Lib.hid hT; clear hT
  have hpar := par_of_named hn
  have HW := Lib.hid (walked_ord hn hl0)
  have hwk := fun wx hx => ref3_walk R (.slice a T.length cap) T hpar hl T.length 0 wx hx hl0 (by omega)
  unfold WalkPost at hwk
  simp only [Nat.sub_zero] at hwk
  have hol := Lib.hid (ordT_len hpar hl0)
  rw [show walkR T T.length 0 = ordT T from rfl, show ((0 : Nat) : Int) = 0 from rfl, hol.out] at hwk
  have HWK := Lib.hid hwk
  clear hwk hn hpar
  go_enter Tryz.func67, Tryz.ntmps67
  go_wp2_with fail
  refine (HWK.out _ (by exact HT.out.new ((Below.refl _ _).alloc (Nat.le_refl _) _))).mono ?_
  rintro e w1 ⟨rv, rfl, hown, hb1⟩
  have hB1 := (Holds.new w #[.slice a T.length cap] 25).keeps (Keeps.of_fresh hb1 (fun _ => False)) (fun e => e)
  have hb2 : Below w.heap.size w w1 := ((Below.refl _ _).alloc (Nat.le_refl _) _).trans (hb1.mono (by simp))
  clear hb1 HWK
  obtain ⟨og, oc, rfl, ho1, ho2⟩ := hown.form hl0
  go_wp2_with fail
  go_loopg [11] (T.length) (fun f x wr => ∃ j : Nat, x = .int .i64 j ∧ j ≤ T.length ∧ T.length ≤ j + f ∧ Hid ((ordT T).take j = List.range j) ∧ w1 = wr)
  case atStart => exact ⟨0, rfl, by omega, by omega, rfl, rfl⟩
  case round =>
    obtain ⟨j, rfl, hj, hf, hP, rfl⟩ := hrel
    by_cases hlt : j < T.length
    · have hjo : j < (ordT T).length := by rw [hol.out]; exact hlt
      have hcc := hown.cellAt j (by omega)
      rw [show (natCells (ordT T))[j]? = some (.int .i64 ((ordT T)[j] : Int)) from by simp [natCells, hjo]] at hcc
      have hadd := Lib.hid (show (ordT T).take (j + 1) = (ordT T).take j ++ [(ordT T)[j]] from List.take_succ_eq_append_getElem hjo)
      by_cases he : (ordT T)[j] = j
      · have he' : ((j : Int) != ((ordT T)[j] : Int)) = false := by simp; omega
        have hP2 := Lib.hid (show (ordT T).take (j + 1) = List.range (j + 1) from by rw [hadd.out, hP.out, he, List.range_succ])
        clear he
        generalize (ordT T)[j] = x at hcc he'
        clear hadd hjo
        go_wp2_with fail
        go_roundg (gk - 1)
        case measure => omega
        case rel => exact ⟨j + 1, by go_num, by omega, by omega, hP2, rfl⟩
      · have he' : ((j : Int) != ((ordT T)[j] : Int)) = true := by simp; omega
        have hF := Lib.hid (show walkedT T = false from by
          rw [HW.out, decide_eq_false, Bool.false_and]
          intro e
          have : (ordT T)[j]? = some j := by rw [e]; simp [hlt]
          rw [List.getElem?_eq_getElem hjo] at this
          exact he (Option.some.inj this))
        clear he
        generalize (ordT T)[j] = x at hcc he'
        clear hadd hjo
        go_wp2_with fail
        go_ret
        exact ⟨ret_bool (by rw [hF.out]), hb2⟩
    · have hO := Lib.hid (show walkedT T = T.all fun n => ascT n.props from by
        have e : ordT T = List.range T.length := by
          have := hP.out
          rw [show j = T.length from by omega, List.take_of_length_le (by rw [hol.out]; omega)] at this
          exact this
        rw [HW.out, e, decide_eq_true rfl, Bool.true_and])
      clear hP
      have bx0 := hB1.cell 0
      have blt := hB1.lt
      go_wp2_with fail
      go_loopg [23] (T.length) (fun f x wr => ∃ k : Nat, x = .int .i64 k ∧ k ≤ T.length ∧ T.length ≤ k + f ∧ Hid (T.all (fun n => ascT n.props) = (T.drop k).all fun n => ascT n.props) ∧ Below w.heap.size w wr)
      case atStart => exact ⟨0, rfl, by omega, by omega, by simp [Hid], hb2⟩
      case round =>
        obtain ⟨go, rfl⟩ : ∃ x : Nat, x = gk := ⟨_, rfl⟩
        obtain ⟨wo, rfl⟩ : ∃ x : World, x = wr := ⟨_, rfl⟩
        obtain ⟨k, rfl, hk, hf2, hA, hb⟩ := hrel
        have hbs := hb.size
        by_cases hlt2 : k < T.length
        · obtain ⟨g, o, pa, pc, rfl, hg, c0, c1, c2, hp, p1, p2, b0, b1, b2⟩ := (HT.out.new hb).at k hlt2
          have HPn := Lib.hid hp; clear hp
          have hstep := Lib.hid (show (T.drop k).all (fun n => ascT n.props) = (ascT T[k].props && (T.drop (k + 1)).all fun n => ascT n.props) from by rw [List.drop_eq_getElem_cons hlt2]; rfl)
          have hnb := Holds.new wo #[.int .i64 T[k].parent, .string T[k].name, .slice pa T[k].props.length pc] 52
          go_wp2_with fail
          go_loopg [7] (T[k].props.length) (fun f x wx => ∃ (j m : Nat), x = .int .i64 j ∧ 1 ≤ j ∧ T[k].props.length ≤ j + f ∧ (1 < j → j ≤ T[k].props.length) ∧ Hid (ascT T[k].props = ascT (T[k].props.drop (j - 1))) ∧
            wx = (wo.alloc (.cells #[.int .i64 T[k].parent, .string T[k].name, .slice pa T[k].props.length pc] 52)).drewN m)
          case atStart => exact ⟨1, 0, rfl, by omega, by omega, by omega, by simp [Hid], rfl⟩
          case round =>
            obtain ⟨j, m, rfl, hj1, hf2, hj2, hB, rfl⟩ := hrel
            by_cases hjl : j < T[k].props.length
            · obtain ⟨gp, op, e1, hgp, d0, d1, d2, d3⟩ := HPn.out.at j hjl
              obtain ⟨gq, oq, e2, hgq, f0, f1, f2, f3⟩ := HPn.out.at (j - 1) (by omega)
              subst e1
              cases e2
              have hj1' : j - 1 < T[k].props.length := by omega
              have hsub : IntKind.i64.wrap ((j : Int) - 1) = (j : Int) - 1 := IntWalk.i64_in _ (by omega)
              have hsub0 : (0 : Int) ≤ (j : Int) - 1 := by omega
              have hsub1 : ((j : Int) - 1).toNat = j - 1 := by omega
              have hsub2 : (j : Int) - 1 < (T[k].props.length : Int) := by omega
              have hjI : (j : Int) < (T[k].props.length : Int) := by omega
              have hasc := Lib.hid (asc_two T[k].props j hj1 hjl)
              cases hlt3 : Op.bytesLess (T[k].props[j - 1]).name.toList (T[k].props[j]).name.toList with
              | true =>
                have hL := Lib.hid (show ltS (T[k].props[j - 1]).name (T[k].props[j]).name = true from hlt3)
                go_wp2_with fail
                go_quiet (fail)
                go_wp2_with fail
                clear hsub hsub0 hsub1 hsub2 hjI
                go_roundg (gk - 1)
                case measure => omega
                case rel => exact ⟨j + 1, _, by go_num, by omega, by omega, by omega, by show _ = _; rw [hB.out, hasc.out, hL.out, Bool.true_and]; rfl, rfl⟩
              | false =>
                have hL := Lib.hid (show ltS (T[k].props[j - 1]).name (T[k].props[j]).name = false from hlt3)
                go_wp2_with fail
                go_quiet (fail)
                go_wp2_with fail
                clear hsub hsub0 hsub1 hsub2 hjI
                go_ret
                exact ⟨ret_bool (by rw [hO.out, hA.out, hstep.out, hB.out, hasc.out, hL.out]; simp), below_draws (below_draws (hb.alloc hbs _) _) _⟩
            · have hAs := Lib.hid (show ascT T[k].props = true from by rw [hB.out]; exact asc_nil (by simp; omega))
              clear hB
              have hb3 : Below w.heap.size w ((wo.alloc (.cells #[.int .i64 T[k].parent, .string T[k].name, .slice pa T[k].props.length pc] 52)).drewN m) := below_draws (hb.alloc hbs _) m
              go_wp2_with fail
              go_roundg (go - 1)
              case measure => omega
              case rel => exact ⟨k + 1, by go_num, by omega, by omega, by show _ = _; rw [hA.out, hstep.out, hAs.out, Bool.true_and], hb3⟩
        · go_wp2_with fail
          go_ret
          exact ⟨ret_bool (by rw [hO.out, hA.out, List.drop_eq_nil_of_le (by omega)]; rfl), hb⟩
end Go.Proofs.YtofhcgbihonckaaGreatDoor

namespace Go.Proofs.YtofhcgbihonckaaGreatDoor
open Go.RowKit

theorem check_limits_no {T : List NodeT} (h : limitsT T = false) : checkT T = 3 := by unfold checkT; rw [if_pos h]
theorem check_named_no {T : List NodeT} (h : limitsT T = true) (h2 : namedT T = false) : checkT T = 1 := by unfold checkT; rw [h, if_neg (by simp), if_pos h2]
theorem check_walked_no {T : List NodeT} (h : limitsT T = true) (h2 : namedT T = true) (h3 : walkedT T = false) : checkT T = 12 := by unfold checkT; rw [h, h2, if_neg (by simp), if_neg (by simp), if_pos h3]
theorem check_rest {T : List NodeT} (h : limitsT T = true) (h2 : namedT T = true) (h3 : walkedT T = true) : checkT T = if dupAny T = true then 5 else if deepT T = true then 2 else 0 := by
  unfold checkT; rw [h, h2, h3, if_neg (by simp), if_neg (by simp), if_neg (by simp), twin_dup h2]
def dupUpto (T : List NodeT) (k : Nat) : Prop := ∀ i, i < k → dupF T i i = false
theorem dupAny_no {T : List NodeT} (h : dupUpto T T.length) : dupAny T = false := by
  unfold dupAny; rw [List.any_eq_false]
  intro i hi
  rw [h i (List.mem_range.1 hi)]; simp
theorem dupAny_yes {T : List NodeT} {i k : Nat} (hi : i < T.length) (hk : k < i) (h0 : 0 < k) (h1 : T[k].parent = T[i].parent) (h2 : T[k].name = T[i].name) : dupAny T = true := by
  unfold dupAny; rw [List.any_eq_true]
  exact ⟨i, List.mem_range.2 hi, (dupF_iff T i i).2 ⟨k, h0, hk, by rw [parOf_at (by omega), parOf_at hi, h1], by rw [nameOf_at (by omega), nameOf_at hi, h2]⟩⟩
theorem deep_no {T : List NodeT} (h : ∀ i, i < T.length → depF T T.length i ≤ 8) : deepT T = false := by
  unfold deepT; rw [List.any_eq_false]
  intro i hi
  have := h i (List.mem_range.1 hi)
  unfold depT; simp; omega
theorem deep_yes {T : List NodeT} {i : Nat} (hi : i < T.length) (h : 8 < depF T T.length i) : deepT T = true := by
  unfold deepT; rw [List.any_eq_true]
  exact ⟨i, List.mem_range.2 hi, decide_eq_true h⟩

set_option maxHeartbeats 4000000 in
theorem ref3_Check (R : Nat → Prop) (v : Value) (T : List NodeT) (w : World) (hT : NodesIn R w v T) :
    Calls Tryz.prog 34 #[.agg #[v]] w fun e w' => e = .returned (.int .i64 (checkT T)) ∧ Below w.heap.size w w' := by
  obtain ⟨a, cap, rfl, hc1, hc2⟩ := hT.shape
  have HT := Lib.hid hT; clear hT
  have hb0 : Below w.heap.size w (w.alloc (.cells #[.slice a T.length cap] 25)) := (Below.refl _ _).alloc (Nat.le_refl _) _
  have hB0 := Holds.new w #[.slice a T.length cap] 25
  have hlm := fun wx hx => ref3_limits R (.slice a T.length cap) T wx hx
  cases hL : limitsT T with
  | false =>
    rw [hL] at hlm
    have HLM := Lib.hid hlm
    have HC := Lib.hid (check_limits_no hL)
    clear hlm hL
    go_enter Tryz.func34, Tryz.ntmps34
    go_wp2_with fail
    refine (HLM.out _ (by exact HT.out.new hb0)).mono ?_
    rintro e w1 ⟨rfl, hb1⟩
    go_wp2_with fail
    go_ret
    exact ⟨ret_int (by rw [HC.out]), hb0.trans (hb1.mono (by simp))⟩
  | true =>
    rw [hL] at hlm
    have HLM := Lib.hid hlm
    have hlen := limits_len hL
    obtain ⟨hlen1, hlen2⟩ := hlen
    have hnm := fun wx hx => ref3_names R (.slice a T.length cap) T wx hx
    clear hlm
    cases hN : namedT T with
    | false =>
      rw [hN] at hnm
      have HNM := Lib.hid hnm
      have HC := Lib.hid (check_named_no hL hN)
      clear hnm hL hN
      go_enter Tryz.func34, Tryz.ntmps34
      go_wp2_with fail
      refine (HLM.out _ (by exact HT.out.new hb0)).mono ?_
      rintro e w1 ⟨rfl, hb1⟩
      have hb2 := hb0.trans (hb1.mono (by simp))
      have hB1 := hB0.keeps (Keeps.of_fresh hb1 (fun _ => False)) (fun e => e)
      have bx := hB1.cell 0
      have bl := hB1.lt
      go_wp2_with fail
      refine (HNM.out _ (by exact HT.out.new hb2)).mono ?_
      rintro e w2 ⟨rfl, hb3⟩
      go_wp2_with fail
      go_ret
      exact ⟨ret_int (by rw [HC.out]), hb2.trans (hb3.mono hb2.size)⟩
    | true =>
      rw [hN] at hnm
      have HNM := Lib.hid hnm
      have hor := fun wx hx => ref3_ordered R (.slice a T.length cap) T wx hx hN (by omega) hlen2
      clear hnm
      cases hW : walkedT T with
      | false =>
        rw [hW] at hor
        have HOR := Lib.hid hor
        have HC := Lib.hid (check_walked_no hL hN hW)
        clear hor hL hN hW
        go_enter Tryz.func34, Tryz.ntmps34
        go_wp2_with fail
        refine (HLM.out _ (by exact HT.out.new hb0)).mono ?_
        rintro e w1 ⟨rfl, hb1⟩
        have hb2 := hb0.trans (hb1.mono (by simp))
        have hB1 := hB0.keeps (Keeps.of_fresh hb1 (fun _ => False)) (fun e => e)
        have bx := hB1.cell 0
        have bl := hB1.lt
        go_wp2_with fail
        refine (HNM.out _ (by exact HT.out.new hb2)).mono ?_
        rintro e w2 ⟨rfl, hb3⟩
        have hb4 := hb2.trans (hb3.mono hb2.size)
        have hB2 := hB1.keeps (Keeps.of_fresh hb3 (fun _ => False)) (fun e => e)
        clear bx bl
        have bx := hB2.cell 0
        have bl := hB2.lt
        go_wp2_with fail
        refine (HOR.out _ (by exact HT.out.new hb4)).mono ?_
        rintro e w3 ⟨rfl, hb5⟩
        go_wp2_with fail
        go_ret
        exact ⟨ret_int (by rw [HC.out]), hb4.trans (hb5.mono hb4.size)⟩
      | true =>
        rw [hW] at hor
        have HOR := Lib.hid hor
        have HC := Lib.hid (check_rest hL hN hW)
        have hlv := Lib.hid (fun (i : Nat) (hi : i < T.length) wx hx => ref3_level R (.slice a T.length cap) T i wx hx hN (by omega) (by omega) (by omega))
        clear hor hL hN hW
        go_enter Tryz.func34, Tryz.ntmps34
        go_wp2_with fail
        refine (HLM.out _ (by exact HT.out.new hb0)).mono ?_
        rintro e w1 ⟨rfl, hb1⟩
        have hb2 := hb0.trans (hb1.mono (by simp))
        have hB1 := hB0.keeps (Keeps.of_fresh hb1 (fun _ => False)) (fun e => e)
        have bx := hB1.cell 0
        have bl := hB1.lt
        go_wp2_with fail
        refine (HNM.out _ (by exact HT.out.new hb2)).mono ?_
        rintro e w2 ⟨rfl, hb3⟩
        have hb4 := hb2.trans (hb3.mono hb2.size)
        have hB2 := hB1.keeps (Keeps.of_fresh hb3 (fun _ => False)) (fun e => e)
        clear bx bl
        have bx := hB2.cell 0
        have bl := hB2.lt
        go_wp2_with fail
        refine (HOR.out _ (by exact HT.out.new hb4)).mono ?_
        rintro e w3 ⟨rfl, hb5⟩
        have hb6 := hb4.trans (hb5.mono hb4.size)
        have hB3 := hB2.keeps (Keeps.of_fresh hb5 (fun _ => False)) (fun e => e)
        clear bx bl HLM HNM HOR hb0 hb1 hb2 hb3 hb4 hb5 hB0 hB1 hB2
        have bx := hB3.cell 0
        have bl := hB3.lt
        go_wp2_with fail
        go_loopg [18] (T.length) (fun f x wr => ∃ i : Nat, x = .int .i64 i ∧ i ≤ T.length ∧ T.length ≤ i + f ∧ Hid (dupUpto T i) ∧ Below w.heap.size w wr ∧ Holds wr w.heap.size #[.slice a T.length cap] 25)
        case atStart => exact ⟨0, rfl, by omega, by omega, (fun i h => absurd h (Nat.not_lt_zero i) : dupUpto T 0), hb6, hB3⟩
        case round =>
          obtain ⟨go, rfl⟩ : ∃ x : Nat, x = gk := ⟨_, rfl⟩
          obtain ⟨wo, rfl⟩ : ∃ x : World, x = wr := ⟨_, rfl⟩
          obtain ⟨i, rfl, hi, hf, hD, hb, hB⟩ := hrel
          clear bx bl
          have hbs := hb.size
          have bx := hB.cell 0
          have bl := hB.lt
          by_cases hlt : i < T.length
          · obtain ⟨g, o, pa, pc, rfl, hg, c0, c1, c2, hp, p1, p2, b0, b1, b2⟩ := (HT.out.new hb).at i hlt
            have hnb := Holds.new wo #[.int .i64 T[i].parent, .string T[i].name, .slice pa T[i].props.length pc] 52
            clear hp
            have hnx := Lib.hid (HT.out.new hb)
            go_wp2_with fail
            go_loopg [5] (i) (fun f x wx => ∃ (k m : Nat), x = .int .i64 k ∧ 1 ≤ k ∧ i ≤ k + f ∧ Hid (dupF T i k = false) ∧ (1 < k → k ≤ i) ∧ (wo.alloc (.cells #[.int .i64 T[i].parent, .string T[i].name, .slice pa T[i].props.length pc] 52)).drewN m = wx)
            case atStart => exact ⟨1, 0, rfl, by omega, by omega, (by show dupF T i 1 = false; rfl), by omega, rfl⟩
            case round =>
              obtain ⟨k, m, rfl, hk1, hf2, hF, hki, rfl⟩ := hrel
              by_cases hkl : k < i
              · obtain ⟨g', o', pa', pc', e', hg', d0, d1, d2, hp', q1, q2, r0, r1, r2⟩ := hnx.out.at k (by omega)
                cases e'
                clear hp'
                have hkI : (k : Int) < (i : Int) := by omega
                by_cases hpe : T[k].parent = T[i].parent
                · have hpe' : (T[k].parent == T[i].parent) = true := by simp [hpe]
                  cases hne : (T[k].name.toList == T[i].name.toList) with
                  | true =>
                    have hX := Lib.hid (show checkT T = 5 from by rw [HC.out, if_pos (dupAny_yes hlt hkl (by omega) hpe ((eqS_iff _ _).1 hne))])
                    clear hpe
                    go_wp2_with fail
                    go_quiet (fail)
                    go_wp2_with fail
                    go_ret
                    exact ⟨ret_int (by rw [hX.out]), below_draws (below_draws (hb.alloc hbs _) _) _⟩
                  | false =>
                    have hF2 := Lib.hid (show dupF T i (k + 1) = false from by
                      simp only [dupF, hF.out]
                      rw [show eqS (nameOf T k) (nameOf T i) = false from by rw [nameOf_at (by omega), nameOf_at hlt]; exact hne]; simp)
                    clear hpe
                    go_wp2_with fail
                    go_quiet (fail)
                    go_wp2_with fail
                    go_roundg (gk - 1)
                    case measure => omega
                    case rel => exact ⟨k + 1, _, by go_num, by omega, by omega, hF2, by omega, rfl⟩
                · have hpe' : (T[k].parent == T[i].parent) = false := by simpa using hpe
                  have hF2 := Lib.hid (show dupF T i (k + 1) = false from by
                    simp only [dupF, hF.out]
                    rw [show decide (parOf T k = parOf T i) = false from by rw [parOf_at (by omega), parOf_at hlt]; simpa using hpe]; simp)
                  clear hpe
                  go_wp2_with fail
                  go_quiet (fail)
                  go_wp2_with fail
                  go_roundg (gk - 1)
                  case measure => omega
                  case rel => exact ⟨k + 1, _, by go_num, by omega, by omega, hF2, by omega, rfl⟩
              · have hD2 := Lib.hid (show dupUpto T (i + 1) from by
                  intro q hq
                  by_cases e : q = i
                  · subst e
                    by_cases h1 : 1 < k
                    · have : k = q := by have := hki h1; omega
                      rw [← this] at hF ⊢; exact hF.out
                    · have hq1 : q = 0 ∨ q = 1 := by omega
                      rcases hq1 with rfl | rfl <;> rfl
                  · exact hD.out q (by omega))
                have hb3 : Below w.heap.size w ((wo.alloc (.cells #[.int .i64 T[i].parent, .string T[i].name, .slice pa T[i].props.length pc] 52)).drewN m) := below_draws (hb.alloc hbs _) m
                have hB3 := (hB.alloc (.cells #[.int .i64 T[i].parent, .string T[i].name, .slice pa T[i].props.length pc] 52)).drewN m
                clear hF hki
                go_wp2_with fail
                go_roundg (go - 1)
                case measure => omega
                case rel => exact ⟨i + 1, by go_num, by omega, by omega, hD2, hb3, hB3⟩
          · have hX := Lib.hid (show checkT T = if deepT T = true then 2 else 0 from by
              rw [HC.out, dupAny_no (by have := hD.out; rwa [show i = T.length from by omega] at this)]; simp)
            clear hD HC
            go_wp2_with fail
            go_loopg [52] (T.length) (fun f x wr => ∃ i : Nat, x = .int .i64 i ∧ i ≤ T.length ∧ T.length ≤ i + f ∧ Hid (∀ q : Nat, q < i → depF T T.length q ≤ 8) ∧ Below w.heap.size w wr ∧ Holds wr w.heap.size #[.slice a T.length cap] 25)
            case atStart => exact ⟨0, rfl, by omega, by omega, (fun q h => absurd h (Nat.not_lt_zero q) : ∀ q : Nat, q < 0 → depF T T.length q ≤ 8), hb, hB⟩
            case round =>
              obtain ⟨j, rfl, hj, hf3, hE, hb7, hB7⟩ := hrel
              clear bx bl
              have bx := hB7.cell 0
              have bl := hB7.lt
              by_cases hjl : j < T.length
              · by_cases h8 : depF T T.length j ≤ 8
                · have hE2 := Lib.hid (show ∀ q : Nat, q < j + 1 → depF T T.length q ≤ 8 from fun q hq => by
                    by_cases e : q = j
                    · subst e; exact h8
                    · exact hE.out q (by omega))
                  go_wp2_with fail
                  refine (hlv.out j hjl _ (by exact HT.out.new hb7)).mono ?_
                  rintro e w8 ⟨rfl, hb8⟩
                  have hB8 := hB7.keeps (Keeps.of_fresh hb8 (fun _ => False)) (fun e => e)
                  go_wp2_with fail
                  go_roundg (gk - 1)
                  case measure => omega
                  case rel => exact ⟨j + 1, by go_num, by omega, by omega, hE2, hb7.trans (hb8.mono hb7.size), hB8⟩
                · have h8' : 8 < depF T T.length j := by omega
                  have hY := Lib.hid (show checkT T = 2 from by rw [hX.out, if_pos (deep_yes hjl h8')])
                  clear h8
                  go_wp2_with fail
                  refine (hlv.out j hjl _ (by exact HT.out.new hb7)).mono ?_
                  rintro e w8 ⟨rfl, hb8⟩
                  go_wp2_with fail
                  go_ret
                  exact ⟨ret_int (by rw [hY.out]), hb7.trans (hb8.mono hb7.size)⟩
              · have hY := Lib.hid (show checkT T = 0 from by rw [hX.out, deep_no (by have := hE.out; rwa [show j = T.length from by omega] at this)]; simp)
                go_wp2_with fail
                go_ret
                exact ⟨ret_int (by rw [hY.out]), hb7⟩
end Go.Proofs.YtofhcgbihonckaaGreatDoor

namespace Go.Proofs.YtofhcgbihonckaaGreatDoor
open Go.RowKit

theorem bytes_same {a b : ByteArray} (h : a.data.toList = b.data.toList) : a = b := by
  cases a; cases b; congr; exact Array.toList_inj.1 h

set_option maxHeartbeats 1000000 in
theorem ref3_path (R : Nat → Prop) (v : Value) (T : List NodeT) (u : Nat) (w : World) (hT : NodesIn R w v T) (hn : namedT T = true) (hu : u < T.length) (hl : T.length ≤ 120) :
    Calls Tryz.prog 51 #[.agg #[v], .int .i64 u] w fun e w' => e = .returned (.string (pathS T u)) ∧ Below w.heap.size w w' := by
  obtain ⟨a, cap, rfl, hc1, hc2⟩ := hT.shape
  have HT := Lib.hid hT; clear hT
  have HN := Lib.hid hn; clear hn
  by_cases h0 : u = 0
  · have h0' : ((u : Int) == 0) = true := by simp [h0]
    have hP := Lib.hid (show pathS T u = ⟨#[47]⟩ from by unfold pathS; rw [if_pos h0])
    clear h0
    go_enter Tryz.func51, Tryz.ntmps51
    go_wp2_with fail
    go_ret
    exact ⟨by rw [hP.out]; rfl, (Below.refl _ _).alloc (Nat.le_refl _) _⟩
  · have h0' : ((u : Int) == 0) = false := by simp; omega
    have hP := Lib.hid (show pathS T u = ⟨(flatP (pc T u)).toArray⟩ from by unfold pathS; rw [if_neg h0])
    have hfl := Lib.hid (flatP_len HN.out u u (Nat.le_refl _) hu)
    clear h0
    go_enter Tryz.func51, Tryz.ntmps51
    go_wp2_with fail
    go_loopg [1, 5] (u) (fun f x y wr => ∃ (k : Nat) (o : ByteArray), x = .int .i64 k ∧ y = .string o ∧ k ≤ f ∧ k ≤ u ∧ o.size ≤ 4000 ∧ Hid (flatP (pc T u) = flatP (pc T k) ++ o.data.toList) ∧
      ∃ n, (w.alloc (.cells #[.slice a T.length cap] 25)).drewN n = wr)
    case atStart => exact ⟨u, ByteArray.empty, rfl, rfl, Nat.le_refl _, Nat.le_refl _, by decide, by show _ = _; rw [show ByteArray.empty.data.toList = [] from rfl, List.append_nil], 0, rfl⟩
    case round =>
      obtain ⟨k, o, rfl, rfl, hf, hku, hos, hF, n, rfl⟩ := hrel
      by_cases hk0 : 0 < k
      · have hk : k < T.length := by omega
        obtain ⟨g, oo, pa, pc', rfl, hg, c0, c1, c2, hp, p1, p2, b0, b1, b2⟩ := HT.out.at k hk
        have hns := name_size HN.out k hk
        have hpl := parN_lt (par_of_named HN.out) hk0 hk
        have hpe := Lib.hid (show T[k].parent = ((parN T k : Nat) : Int) from by rw [hpl.2, parOf_at hk])
        obtain ⟨x1, hadd1, hx1, hd1⟩ := adds_of' ⟨#[47]⟩ T[k].name (by rw [show (⟨#[47]⟩ : ByteArray).size = 1 from rfl]; omega)
        rw [show (⟨#[47]⟩ : ByteArray).size = 1 from rfl] at hx1
        obtain ⟨x2, hadd2, hx2, hd2⟩ := adds_of' x1 o (by omega)
        have hF2 := Lib.hid (show flatP (pc T u) = flatP (pc T (parN T k)) ++ x2.data.toList from by
          rw [hF.out, pc_succ (par_of_named HN.out) hk0 hk, flatP_snoc, hd2, hd1, nameOf_at hk]; simp)
        have hx2s : x2.size ≤ 4000 := by
          have h1 := congrArg List.length hF2.out
          have h2 := hfl.out
          simp only [List.length_append] at h1
          have h3 : x2.data.toList.length = x2.size := by simp
          omega
        obtain ⟨hpl1, hpl2⟩ := hpl
        clear hp c2 hx1 hd1 hx2 hd2 hF hpl2
        generalize T[k].parent = pp at c0 hpe b1 b2
        have hpe2 := hpe.out
        subst hpe2
        generalize parN T k = pk at *
        have hk0' : (0 : Int) < (k : Int) := by omega
        go_wp2_with fail
        go_roundg (gk - 1)
        case measure => omega
        case rel => exact ⟨pk, x2, rfl, rfl, by omega, by omega, hx2s, hF2, n, rfl⟩
      · have hk1 : k = 0 := by omega
        subst hk1
        have hE := Lib.hid (show o = pathS T u from bytes_same (by rw [hP.out, hF.out, pc_zero]; rfl))
        clear hF
        go_wp2_with fail
        go_ret
        exact ⟨by rw [hE.out]; rfl, below_draws ((Below.refl _ _).alloc (Nat.le_refl _) _) n⟩

set_option maxHeartbeats 1000000 in
theorem ref3_Path (R : Nat → Prop) (v : Value) (T : List NodeT) (node : Int) (w : World) (hT : NodesIn R w v T) :
    Calls Tryz.prog 26 #[.agg #[v], .int .i64 node] w fun e w' => e = .returned (.string (pathQ T node)) ∧ Below w.heap.size w w' := by
  obtain ⟨a, cap, rfl, hc1, hc2⟩ := hT.shape
  have HT := Lib.hid hT; clear hT
  have hck := fun wx hx => ref3_Check R (.slice a T.length cap) T wx hx
  have hE := Lib.hid (show pathQ T node = if checkT T ≠ 0 ∨ node < 0 ∨ T.length ≤ node then ByteArray.empty else pathS T node.toNat from rfl)
  have hb0 : Below w.heap.size w (w.alloc (.cells #[.slice a T.length cap] 25)) := (Below.refl _ _).alloc (Nat.le_refl _) _
  have hB0 := Holds.new w #[.slice a T.length cap] 25
  by_cases hz : checkT T = 0
  · have hnm := check_named hz
    have hln := limits_len (check_limits hz)
    obtain ⟨hl1, hl2⟩ := hln
    by_cases hr : node < 0
    · have hX := Lib.hid (show pathQ T node = ByteArray.empty from by rw [hE.out, if_pos (.inr (.inl hr))])
      rw [hz] at hck
      have HCK := Lib.hid hck
      clear hck hz hnm
      go_enter Tryz.func26, Tryz.ntmps26
      go_wp2_with fail
      refine (HCK.out _ (by exact HT.out.new hb0)).mono ?_
      rintro e w1 ⟨rfl, hb1⟩
      go_wp2_with fail
      go_ret
      exact ⟨by rw [hX.out]; rfl, hb0.trans (hb1.mono (by simp))⟩
    · by_cases hr2 : (T.length : Int) ≤ node
      · have hX := Lib.hid (show pathQ T node = ByteArray.empty from by rw [hE.out, if_pos (.inr (.inr hr2))])
        rw [hz] at hck
        have HCK := Lib.hid hck
        have hr' : 0 ≤ node := by omega
        clear hck hz hnm hr
        go_enter Tryz.func26, Tryz.ntmps26
        go_wp2_with fail
        refine (HCK.out _ (by exact HT.out.new hb0)).mono ?_
        rintro e w1 ⟨rfl, hb1⟩
        have hB1 := hB0.keeps (Keeps.of_fresh hb1 (fun _ => False)) (fun e => e)
        have bx := hB1.cell 0
        have bl := hB1.lt
        go_wp2_with fail
        go_ret
        exact ⟨by rw [hX.out]; rfl, hb0.trans (hb1.mono (by simp))⟩
      · obtain ⟨k, rfl⟩ := Int.eq_ofNat_of_zero_le (show 0 ≤ node by omega)
        have hkl : k < T.length := by omega
        have hX := Lib.hid (show pathQ T k = pathS T k from by rw [hE.out, if_neg (by rintro (h | h); exact h hz; omega), Int.toNat_natCast])
        rw [hz] at hck
        have HCK := Lib.hid hck
        have hpt := Lib.hid (fun wx hx => ref3_path R (.slice a T.length cap) T k wx hx hnm hkl hl2)
        have hr' : (k : Int) < (T.length : Int) := by omega
        clear hck hz hnm hr hr2
        go_enter Tryz.func26, Tryz.ntmps26
        go_wp2_with fail
        refine (HCK.out _ (by exact HT.out.new hb0)).mono ?_
        rintro e w1 ⟨rfl, hb1⟩
        have hB1 := hB0.keeps (Keeps.of_fresh hb1 (fun _ => False)) (fun e => e)
        have bx := hB1.cell 0
        have bl := hB1.lt
        have hb2 := hb0.trans (hb1.mono (by simp))
        go_wp2_with fail
        refine (hpt.out _ (by exact HT.out.new hb2)).mono ?_
        rintro e w2 ⟨rfl, hb3⟩
        go_wp2_with fail
        go_ret
        exact ⟨by rw [hX.out]; rfl, hb2.trans (hb3.mono hb2.size)⟩
  · have hz' : (checkT T != 0) = true := by simpa using hz
    have hX := Lib.hid (show pathQ T node = ByteArray.empty from by rw [hE.out, if_pos (.inl hz)])
    have HCK := Lib.hid hck
    clear hck hz
    generalize checkT T = c at *
    go_enter Tryz.func26, Tryz.ntmps26
    go_wp2_with fail
    refine (HCK.out _ (by exact HT.out.new hb0)).mono ?_
    rintro e w1 ⟨rfl, hb1⟩
    go_wp2_with fail
    go_ret
    exact ⟨by rw [hX.out]; rfl, hb0.trans (hb1.mono (by simp))⟩

set_option maxHeartbeats 1000000 in
theorem ref3_find (R : Nat → Prop) (v : Value) (T : List NodeT) (s : ByteArray) (w : World) (hT : NodesIn R w v T) (hn : namedT T = true) (hl : T.length ≤ 120) :
    Calls Tryz.prog 78 #[.agg #[v], .string s] w fun e w' => e = .returned (.int .i64 (findT T s)) ∧ Below w.heap.size w w' := by
  obtain ⟨a, cap, rfl, hc1, hc2⟩ := hT.shape
  have HT := Lib.hid hT; clear hT
  have HP := Lib.hid (fun (k : Nat) (hk : k < T.length) wx hx => ref3_path R (.slice a T.length cap) T k wx hx hn hk hl)
  clear hn
  go_enter Tryz.func78, Tryz.ntmps78
  go_wp2_with fail
  go_loopg [9] (T.length) (fun f x wr => ∃ k : Nat, x = .int .i64 k ∧ k ≤ T.length ∧ T.length ≤ k + f ∧ Hid (∀ q : Nat, q < k → eqS (pathS T q) s = false) ∧ Below w.heap.size w wr ∧ Holds wr w.heap.size #[.slice a T.length cap] 25)
  case atStart => exact ⟨0, rfl, by omega, by omega, (fun q h => absurd h (Nat.not_lt_zero q) : ∀ q : Nat, q < 0 → eqS (pathS T q) s = false), (Below.refl _ _).alloc (Nat.le_refl _) _, Holds.new w _ _⟩
  case round =>
    obtain ⟨k, rfl, hk, hf, hF, hb, hB⟩ := hrel
    have hbs := hb.size
    have bx := hB.cell 0
    have bl := hB.lt
    by_cases hlt : k < T.length
    · cases he : ((pathS T k).toList == s.toList) with
      | true =>
        have hX := Lib.hid (findT_yes hlt he hF.out)
        go_wp2_with fail
        refine (HP.out k hlt _ (by exact HT.out.new hb)).mono ?_
        rintro e w1 ⟨rfl, hb1⟩
        go_wp2_with fail
        go_ret
        exact ⟨ret_int (by rw [hX.out]), hb.trans (hb1.mono hbs)⟩
      | false =>
        have hF2 := Lib.hid (show ∀ q : Nat, q < k + 1 → eqS (pathS T q) s = false from fun q hq => by
          by_cases e : q = k
          · subst e; exact he
          · exact hF.out q (by omega))
        go_wp2_with fail
        refine (HP.out k hlt _ (by exact HT.out.new hb)).mono ?_
        rintro e w1 ⟨rfl, hb1⟩
        have hB1 := hB.keeps (Keeps.of_fresh hb1 (fun _ => False)) (fun e => e)
        go_wp2_with fail
        go_roundg (gk - 1)
        case measure => omega
        case rel => exact ⟨k + 1, by go_num, by omega, by omega, hF2, hb.trans (hb1.mono hbs), hB1⟩
    · have hX := Lib.hid (findT_no (s := s) (by have := hF.out; rwa [show k = T.length from by omega] at this))
      go_wp2_with fail
      go_ret
      exact ⟨ret_int (by rw [hX.out]), hb⟩

set_option maxHeartbeats 1000000 in
theorem ref3_begin (R : Nat → Prop) (v : Value) (T : List NodeT) (s : ByteArray) (w : World) (hT : NodesIn R w v T) :
    Calls Tryz.prog 46 #[.agg #[v], .string s] w fun e w' => e = .returned (.tuple #[.int .i64 (rBeginT T s).1, .int .i64 (rBeginT T s).2]) ∧ Below w.heap.size w w' := by
  obtain ⟨a, cap, rfl, hc1, hc2⟩ := hT.shape
  have HT := Lib.hid hT; clear hT
  have hck := fun wx hx => ref3_Check R (.slice a T.length cap) T wx hx
  have hE := Lib.hid (show rBeginT T s = if checkT T ≠ 0 then (0, checkT T) else if 0 ≤ findT T s then (findT T s, 0) else (0, 4) from rfl)
  have hb0 : Below w.heap.size w (w.alloc (.cells #[.slice a T.length cap] 25)) := (Below.refl _ _).alloc (Nat.le_refl _) _
  have hB0 := Holds.new w #[.slice a T.length cap] 25
  by_cases hz : checkT T = 0
  · have hnm := check_named hz
    have hl2 := (limits_len (check_limits hz)).2
    have hpt := Lib.hid (fun wx hx => ref3_find R (.slice a T.length cap) T s wx hx hnm hl2)
    have hbd := findT_bd T s
    by_cases hf : 0 ≤ findT T s
    · have hX := Lib.hid (show rBeginT T s = (findT T s, 0) from by rw [hE.out, if_neg (by simp [hz]), if_pos hf])
      rw [hz] at hck
      have HCK := Lib.hid hck
      clear hck hz hnm hE hbd
      generalize findT T s = x at *
      go_enter Tryz.func46, Tryz.ntmps46
      go_wp2_with fail
      refine (HCK.out _ (by exact HT.out.new hb0)).mono ?_
      rintro e w1 ⟨rfl, hb1⟩
      have hB1 := hB0.keeps (Keeps.of_fresh hb1 (fun _ => False)) (fun e => e)
      have bx := hB1.cell 0
      have bl := hB1.lt
      have hb2 := hb0.trans (hb1.mono (by simp))
      go_wp2_with fail
      refine (hpt.out _ (by exact HT.out.new hb2)).mono ?_
      rintro e w2 ⟨rfl, hb3⟩
      go_wp2_with fail
      go_ret2
      exact ⟨by rw [hX.out]; rfl, hb2.trans (hb3.mono hb2.size)⟩
    · have hX := Lib.hid (show rBeginT T s = (0, 4) from by rw [hE.out, if_neg (by simp [hz]), if_neg hf])
      have hf' : findT T s < 0 := by omega
      rw [hz] at hck
      have HCK := Lib.hid hck
      clear hck hz hnm hE hbd hf
      generalize findT T s = x at *
      go_enter Tryz.func46, Tryz.ntmps46
      go_wp2_with fail
      refine (HCK.out _ (by exact HT.out.new hb0)).mono ?_
      rintro e w1 ⟨rfl, hb1⟩
      have hB1 := hB0.keeps (Keeps.of_fresh hb1 (fun _ => False)) (fun e => e)
      have bx := hB1.cell 0
      have bl := hB1.lt
      have hb2 := hb0.trans (hb1.mono (by simp))
      go_wp2_with fail
      refine (hpt.out _ (by exact HT.out.new hb2)).mono ?_
      rintro e w2 ⟨rfl, hb3⟩
      go_wp2_with fail
      go_ret2
      exact ⟨by rw [hX.out]; rfl, hb2.trans (hb3.mono hb2.size)⟩
  · have hz' : (checkT T != 0) = true := by simpa using hz
    have hX := Lib.hid (show rBeginT T s = (0, checkT T) from by rw [hE.out, if_pos hz])
    have HCK := Lib.hid hck
    clear hck hz hE
    generalize checkT T = c at *
    go_enter Tryz.func46, Tryz.ntmps46
    go_wp2_with fail
    refine (HCK.out _ (by exact HT.out.new hb0)).mono ?_
    rintro e w1 ⟨rfl, hb1⟩
    go_wp2_with fail
    go_ret2
    exact ⟨by rw [hX.out]; rfl, hb0.trans (hb1.mono (by simp))⟩
end Go.Proofs.YtofhcgbihonckaaGreatDoor

namespace Go.Proofs.YtofhcgbihonckaaGreatDoor
open Go.RowKit

section
variable {P : Program} {w : World}
theorem run_append_zero (base : Nat) (t ty e : TypeId) (i : TypeInfo) (size : Nat) (ht : P.underlying t = some (.slice e)) (hi : P.info? e = some i)
    (v : Value) (n : Nat) (xs : List Value) (hown : w.ownsRow base e size v n xs) (ao : Option Addr) (c : Nat) :
    (Builtin.append_ #[t, t] ty #[v, .slice ao 0 c]).run P w = .ok v w := by
  rcases hown.2 with ⟨rfl, rfl⟩ | ⟨g, cap, cur, rfl, _, _, hnc, _⟩
  · cases ao <;> simp [Builtin.append_, run_underlying ht, sizeOf, typeInfo, hi, Builtin.lenOf, Builtin.firstCells, loadCells, loadCellsFrom]
  · cases ao <;> simp [Builtin.append_, run_underlying ht, sizeOf, typeInfo, hi, Builtin.lenOf, Builtin.firstCells, hnc, storeCells, loadCells, loadCellsFrom]
theorem wpList_append_zero {ops : Array Oper} {rest : List Oper} {o : Oper} {a : Act} {Q : Exit → Act → World → Prop} (hgd : o.guard = none) (s x : Operand) (t : TypeId)
    (ho : o.op = .call { callee := .builtin .append, args := #[s, x], argTypes := #[t, t] })
    (base : Nat) (e : TypeId) (i : TypeInfo) (size : Nat) (ht : P.underlying t = some (.slice e)) (hi : P.info? e = some i)
    (v : Value) (n : Nat) (xs : List Value) (hs : a.eval s = v) (hown : w.ownsRow base e size v n xs) (ao : Option Addr) (c : Nat) (hx : a.eval x = .slice ao 0 c)
    (h : wpList P ops Q rest (a.put o.dst v) w) : wpList P ops Q (o :: rest) a w := by
  refine wpList_plain hgd fun K hK => ?_
  have hrun := run_append_zero (P := P) (w := w) base t o.type e i size ht hi v n xs hown ao c
  unfold Oper.wp
  simp [execOp, ho, resolve, invoke, builtin, hs, hx, hrun, Result.andThen]
  exact hK _ _ h
end
theorem row_empty {W : World} {B base size : Nat} {E : TypeId} (hB : W.heap.size = B) (hb : base ≤ B) : (W.alloc (.cells #[] E)).ownsRow base E size (.slice (some ⟨B, 0, none⟩) 0 0) 0 [] := by
  subst hB; exact World.ownsRow_made W #[] 0 hb (by unfold maxLen; omega) (by simp)
theorem cells_below {w w' : World} {g o B : Nat} {xs : List Value} (h : ∀ j u, xs[j]? = some u → w.cell? ((⟨g, o, none⟩ : Addr).add j) = some u) (hg : g < B) (k : Below B w w') :
    ∀ j u, xs[j]? = some u → w'.cell? ((⟨g, o, none⟩ : Addr).add j) = some u := by
  intro j u hu
  have hadd : (⟨g, o, none⟩ : Addr).add j = ⟨g, o + j, none⟩ := by unfold Addr.add; split <;> simp_all
  have := h j u hu
  rw [hadd] at this ⊢
  exact (k.cell (p := ⟨g, o + j, none⟩) hg).trans this
def CopyRel (T : List NodeT) (w : World) (a : Option Addr) (cap : Nat) (f : Nat) (x : Value) (wr : World) : Prop :=
  ∃ (k : Nat) (v : Value), x = .int .i64 k ∧ k ≤ T.length ∧ T.length ≤ k + f ∧ Holds wr (w.heap.size + 1 + 1) #[v] 25 ∧ TreeRow wr w.heap.size v (T.take k) ∧
    Holds wr w.heap.size #[.slice a T.length cap] 25 ∧ Holds wr (w.heap.size + 1) #[.slice none 0 0] 25 ∧ Below w.heap.size w wr
/-- A tree of the call's own. -/
def TreePost (T : List NodeT) (w : World) (e : Ending) (w' : World) : Prop := ∃ v, e = .returned (.agg #[v]) ∧ TreeRow w' w.heap.size v T ∧ Below w.heap.size w w'
theorem take_more {T : List NodeT} {k : Nat} (h : k < T.length) : T.take (k + 1) = T.take k ++ [T[k]] := List.take_succ_eq_append_getElem h
/-- A node block whose properties have been copied. -/
def CopyMid (n : NodeT) (Nd : Nat) (wr : World) (y : Value) (wx : World) : Prop :=
  ∃ pv, y = .pointer (some ⟨Nd, 0, none⟩) ∧ Holds wx Nd #[.int .i64 n.parent, .string n.name, pv] 52 ∧ PropRow wx wr.heap.size pv n.props ∧ Below wr.heap.size wr wx

set_option maxRecDepth 100000 in
set_option maxHeartbeats 4000000 in
theorem ref3_copied (R : Nat → Prop) (v : Value) (T : List NodeT) (w : World) (hT : NodesIn R w v T) (hl : T.length ≤ 120) (hps : ∀ n ∈ T, n.props.length ≤ 1000) :
    Calls Tryz.prog 48 #[.agg #[v]] w (TreePost T w) := by
  obtain ⟨a, cap, rfl, hc1, hc2⟩ := hT.shape
  have HT := Lib.hid hT; clear hT
  have HPS := Lib.hid hps; clear hps
  go_enter Tryz.func48, Tryz.ntmps48
  go_wp2_with fail
  go_loopg [9] (T.length) (fun f x wr => CopyRel T w a cap f x wr)
  case atStart => exact ⟨0, _, rfl, by omega, by omega, Holds.newAt (w := (w.alloc _).alloc _) (by simp) _ _, TreeRow.nil _ _, ((Holds.new w _ _).alloc _).alloc _, (Holds.newAt (w := w.alloc _) (by simp) _ _).alloc _, (((Below.refl _ _).alloc (Nat.le_refl _) _).alloc (by simp) _).alloc (by simp; omega) _⟩
  case round =>
    obtain ⟨k, v, rfl, hk, hf, hO, hR, hX, hZ, hb⟩ := hrel
    have hbs := hb.size
    by_cases hlt : k < T.length
    · obtain ⟨g, o, pa, pc, rfl, hg, c0, c1, c2, hp, p1, p2, b0, b1, b2⟩ := (HT.out.new hb).at k hlt
      have hpl := HPS.out T[k] (List.getElem_mem hlt)
      have hnok : NodeOk T[k] := ⟨b0, b1, b2⟩
      have hN0 := Holds.new wr #[.int .i64 T[k].parent, .string T[k].name, .slice pa T[k].props.length pc] 52
      have hb0 : Below wr.heap.size wr (wr.alloc (.cells #[.int .i64 T[k].parent, .string T[k].name, .slice pa T[k].props.length pc] 52)) := (Below.refl _ _).alloc (Nat.le_refl _) _
      have HPI := Lib.hid (hp.new hb0)
      clear hp
      have hTk := Lib.hid (take_more hlt)
      have HNK := Lib.hid hnok
      clear hnok
      generalize T[k] = nd at *
      go_upto_region 5 with fail
      go_cut [5] (fun y wx => CopyMid nd wr.heap.size wr y wx)
      case first =>
        have hE := Holds.newAt (w := wr.alloc (.cells #[.int .i64 nd.parent, .string nd.name, .slice pa nd.props.length pc] 52)) (B := wr.heap.size + 1) (by simp) #[] 54
        have n2 := hN0.cell 2
        have f2 := hN0.free 2
        have l2 := hN0.lt
        obtain ⟨i0, hi, hz0, hz1, hz2⟩ := info_parts infoProp
        by_cases hpz : nd.props.length = 0
        · have hpn : nd.props = [] := List.length_eq_zero_iff.1 hpz
          rw [hpz] at *
          have HPN := Lib.hid hpn
          clear hpn hpz
          go_wp2_with (at_builtin; refine wpList_append_zero rfl _ _ 50 rfl wr.heap.size 54 i0 2 Tryz.underlying50 hi (.slice (some ⟨wr.heap.size + 1, 0, none⟩) 0 0) 0 [] rfl (by exact row_empty (by simp) (by omega)) pa pc rfl ?_)
          go_meet
          refine ⟨_, rfl, (Holds.new wr _ _).alloc _, ?_, ((Below.refl _ _).alloc (Nat.le_refl _) _).alloc (by simp) _⟩
          rw [HPN.out]
          exact ⟨row_empty (by simp) (by omega), fun _ h => by cases h⟩
        · obtain ⟨pg, po, hpa, hpg, _, hpok, hpc, hpone⟩ := HPI.out.row (by omega)
          subst hpa
          have HPC := Lib.hid hpc
          have HPO := Lib.hid hpok
          clear hpc hpok hpone
          go_wp2_with (at_builtin; refine wpList_append_own _ rfl _ _ 50 rfl wr.heap.size 54 i0 (.agg #[.string ⟨#[]⟩, .string ⟨#[]⟩]) 2 32 Tryz.underlying50 hi hz0 hz1 hz2 rfl (by decide) (.slice (some ⟨wr.heap.size + 1, 0, none⟩) 0 0) 0 [] rfl (by exact row_empty (by simp) (by omega)) ⟨pg, po, none⟩ nd.props.length pc (propCells nd.props) rfl (propCells_len _) ?c1 ?c2 ?c3 ?c4 ?c5 ?_)
          case c1 => exact cells_below HPC.out hpg ((Below.refl _ _).alloc (Nat.le_refl _) _)
          case c2 => exact propCells_one _
          case c3 => unfold maxLen; omega
          case c4 => omega
          case c5 => simp; omega
          intro v' w5 hown' hgrow _
          have hN5 := (hN0.alloc (.cells #[] 54)).grown hgrow (fun e => by have : wr.heap.size + 1 = wr.heap.size := Option.some.inj e; omega)
          have hb5 := (hb0.alloc (by simp) (.cells #[] 54)).grown hgrow (by simp; omega) (fun q hq => by have : wr.heap.size + 1 = q := Option.some.inj hq; omega)
          clear hgrow n2 f2 l2
          obtain ⟨va, vc, rfl⟩ := row_slice hown'
          have n2 := hN5.cell 2
          have f2 := hN5.free 2
          have l2 := hN5.lt
          go_wp2_with fail
          go_meet
          exact ⟨_, rfl, hN5.set 2 _, ⟨row_set hown' hN5 (by decide) 2 _, HPO.out⟩, hb5.setCell (p := ⟨wr.heap.size, 2, none⟩) (Nat.le_refl _) _⟩
      case rest =>
        obtain ⟨pv, rfl, hN, hP, hb3⟩ := hcut
        clear hN0 hb0
        have hO3 := hO.keeps (Keeps.of_fresh hb3 (fun _ => False)) (fun e => e)
        have hX3 := hX.keeps (Keeps.of_fresh hb3 (fun _ => False)) (fun e => e)
        have hZ3 := hZ.keeps (Keeps.of_fresh hb3 (fun _ => False)) (fun e => e)
        have hR3 := hR.new hb3
        have hb4 := hb.trans (hb3.mono hbs)
        have hs4 := hb4.size
        have hTl : (T.take k).length = k := by simp; omega
        generalize T.take k = T0 at *
        obtain ⟨pvs, g1, g2, g3, g4⟩ := hR3
        have G3 := Lib.hid g3; have G4 := Lib.hid g4; have G1 := Lib.hid g1
        have e1 : T0.length + 1 ≤ maxLen := by unfold maxLen; omega
        have e2 : (T0.length + 1) * 48 ≤ 140737488355328 := by omega
        clear g3 g4 g1 hX hR hO hZ hTl
        obtain ⟨pa2, pc2, hpv⟩ := row_slice hP.1
        obtain ⟨xa, xc, rfl⟩ := row_slice g2
        have x0 := hO3.cell 0
        have xl := hO3.lt
        have m0 := hN.cell 0
        have m1 := hN.cell 1
        have m2 := hN.cell 2
        have ml := hN.lt
        obtain ⟨i0, hi, hz0, hz1, hz2⟩ := info_parts infoNd
        have HPV := Lib.hid hpv
        clear hpv
        go_wp2_with (at_builtin; refine wpList_append_own _ rfl _ _ 23 rfl w.heap.size 52 i0 (.agg #[.int .i64 0, .string ⟨#[]⟩, .slice none 0 0]) 3 48 Tryz.underlying23 hi hz0 hz1 hz2 rfl (by decide) _ T0.length (nodeCells T0 pvs) rfl (by exact World.ownsRow.alloc g2 _) ⟨wc.heap.size, 0, none⟩ 1 1 [.int .i64 nd.parent, .string nd.name, pv] rfl rfl ?d1 ?d2 ?d3 ?d4 ?d5 ?_)
        case d1 => exact new_cells _ _ _ _ rfl _ rfl
        case d2 =>
          intro u hu
          simp at hu
          rcases hu with rfl | rfl | rfl
          · rfl
          · rfl
          · rw [HPV.out]; rfl
        case d3 => exact e1
        case d4 => exact e2
        case d5 => simp; omega
        intro v' w6 hown' hgrow _
        have hO6 := (hO3.alloc (.cells #[.int .i64 nd.parent, .string nd.name, pv] 52)).grown hgrow (owns_ne_holds g2 hO3 (by decide))
        have hX6 := (hX3.alloc (.cells #[.int .i64 nd.parent, .string nd.name, pv] 52)).grown hgrow (owns_ne_holds g2 hX3 (by decide))
        have hZ6 := (hZ3.alloc (.cells #[.int .i64 nd.parent, .string nd.name, pv] 52)).grown hgrow (owns_ne_holds g2 hZ3 (by decide))
        have hb6 := (hb4.alloc hs4 (.cells #[.int .i64 nd.parent, .string nd.name, pv] 52)).grown hgrow (by simp; omega) (fun g hg => (g2.lt g hg).1)
        have hal : Below wc.heap.size wc (wc.alloc (.cells #[.int .i64 nd.parent, .string nd.name, pv] 52)) := (Below.refl _ _).alloc (Nat.le_refl _) _
        have hR6 : TreeRow w6 w.heap.size v' (T0 ++ [nd]) := TreeRow.more G1.out (World.ownsRow.alloc g2 _) (fun q hq hq2 => (G3.out q hq hq2).new hal) G4.out ((hP.base hbs).new hal) HNK.out hown' hgrow
        obtain ⟨va, vc, rfl⟩ := row_slice hown'
        clear hgrow hown' x0 xl m0 m1 m2 ml
        have x0 := hO6.cell 0
        have xf := hO6.free 0
        have xl := hO6.lt
        go_wp2_with fail
        go_roundg (gk - 1)
        case measure => omega
        case rel => exact ⟨k + 1, _, by go_num, by omega, by omega, hO6.set 0 _, by rw [hTk.out]; exact hR6.set hO6 (by decide) (by decide) 0 _, hX6.other _ _ (by show w.heap.size ≠ w.heap.size + 1 + 1; omega), hZ6.other _ _ (by show w.heap.size + 1 ≠ w.heap.size + 1 + 1; omega), hb6.setCell (p := ⟨w.heap.size + 1 + 1, 0, none⟩) (by simp; omega) _⟩
    · have hke : T.take k = T := List.take_of_length_le (by omega)
      rw [hke] at hR
      have x0 := hO.cell 0
      have xl := hO.lt
      have z0 := hZ.cell 0
      have zf := hZ.free 0
      have zl := hZ.lt
      have hR2 := hR.set hZ (by decide) (by decide) 0 v
      have hb2 := hb.setCell (p := ⟨w.heap.size + 1, 0, none⟩) (by simp) v
      obtain ⟨va, vc, hv⟩ : ∃ va vc, v = .slice va T.length vc := by obtain ⟨_, _, g2, _⟩ := hR; exact row_slice g2
      subst hv
      clear hke
      go_wp2_with fail
      have q0 : (wr.setCell ⟨w.heap.size + 1, 0, none⟩ (.slice va T.length vc)).cell? ⟨w.heap.size + 1, 0, none⟩ = some (.slice va T.length vc) := (hZ.set 0 _).cell 0
      exact bodyPost_ret (v := .agg #[.slice va T.length vc]) (by simp [results, Tryz.results48, go_sem, q0]) rfl ⟨_, rfl, hR2, hb2⟩
end Go.Proofs.YtofhcgbihonckaaGreatDoor

namespace Go.Proofs.YtofhcgbihonckaaGreatDoor
open Go.RowKit

theorem make_ints (n : Nat) (hn : n ≤ 1000) (wx : World) : (Instr.makeSlice 22 (.int .i64 n) (.int .i64 n)).run Tryz.prog wx = .ok (.slice (some ⟨wx.heap.size, 0, none⟩) n n) (wx.alloc (.cells (Array.replicate n (.int .i64 0)) 3)) := by
  obtain ⟨i0, hi, hz0, hz1, hz2⟩ := info_parts infoIn
  have := run_make (P := Tryz.prog) wx 22 3 i0 _ Tryz.underlying22 hi hz0 .i64 .i64 n n (by omega) (by omega) (by rw [hz2]; omega) (by omega)
  rw [this, hz1, show (Value.int .i64 0).cells = #[.int .i64 0] from rfl]
  simp [madeCells_one]
def natArr (l : List Nat) : Array Value := (natCells l).toArray
theorem natArr_at (l : List Nat) (k : Nat) (h : k < l.length) : (natArr l)[k]? = some (.int .i64 (l[k] : Int)) := by simp [natArr, natCells, h]
theorem natArr_set (l : List Nat) (k x : Nat) : (natArr l).setIfInBounds k (.int .i64 (x : Int)) = natArr (l.set k x) := by simp [natArr, natCells, List.map_set]
def AtRel (L : List NodeT) (AB : Nat) (wl : World) (f : Nat) (x : Value) (wr : World) : Prop :=
  ∃ (i : Nat) (l : List Nat), x = .int .i64 i ∧ i ≤ L.length ∧ L.length ≤ i + f ∧ l.length = L.length ∧ (∀ (q : Nat) (_ : q < i) (hq : q < (ordT L).length), l.getD (ordT L)[q] 0 = q) ∧
    Holds wr AB (natArr l) 3 ∧ Keeps (fun b => b = AB) wl wr
theorem getD_set (l : List Nat) (a x b : Nat) (ha : a < l.length) : (l.set a x).getD b 0 = if a = b then x else l.getD b 0 := by
  rw [List.getD_eq_getElem?_getD, List.getElem?_set, List.getD_eq_getElem?_getD]
  by_cases h : a = b
  · subst h; rw [if_pos rfl, if_pos ha, if_pos rfl]; rfl
  · rw [if_neg h, if_neg h]
/-- A row of nodes from b1 on, its properties in rows from b2 on. -/
def TreeRow2 (w : World) (b1 b2 : Nat) (v : Value) (T : List NodeT) : Prop :=
  ∃ pvs : List Value, pvs.length = T.length ∧ w.ownsRow b1 52 3 v T.length (nodeCells T pvs) ∧ (∀ k (_ : k < T.length) (_ : k < pvs.length), PropRow w b2 pvs[k] T[k].props) ∧ ∀ n ∈ T, NodeOk n
theorem TreeRow2.one {w : World} {b1 b2 : Nat} {v : Value} {T : List NodeT} (h : TreeRow2 w b1 b2 v T) (hb : b2 ≤ b1) : TreeRow w b2 v T := by
  obtain ⟨pvs, h1, h2, h3, h4⟩ := h
  exact ⟨pvs, h1, row_base h2 hb, h3, h4⟩
theorem TreeRow2.new {w w' : World} {b1 b2 : Nat} {v : Value} {T : List NodeT} (h : TreeRow2 w b1 b2 v T) (k : Below w.heap.size w w') : TreeRow2 w' b1 b2 v T := by
  obtain ⟨pvs, h1, h2, h3, h4⟩ := h
  exact ⟨pvs, h1, row_new h2 k, fun j hj hj2 => (h3 j hj hj2).new k, h4⟩
theorem TreeRow2.set {w : World} {b1 b2 b : Nat} {t : TypeId} {v : Value} {T : List NodeT} {cs : Array Value} (h : TreeRow2 w b1 b2 v T) (hH : Holds w b cs t) (hne : t ≠ 52) (hne2 : t ≠ 54) (o : Nat) (x : Value) : TreeRow2 (w.setCell ⟨b, o, none⟩ x) b1 b2 v T := by
  obtain ⟨pvs, h1, h2, h3, h4⟩ := h
  exact ⟨pvs, h1, row_set h2 hH hne o x, fun j hj hj2 => (h3 j hj hj2).set hH hne2 o x, h4⟩
theorem TreeRow2.more {w w' : World} {b1 b2 : Nat} {v v' pv : Value} {T : List NodeT} {pvs : List Value} {n : NodeT} (h1 : pvs.length = T.length) (h2 : w.ownsRow b1 52 3 v T.length (nodeCells T pvs))
    (h3 : ∀ k (_ : k < T.length) (_ : k < pvs.length), PropRow w b2 pvs[k] T[k].props) (h4 : ∀ n ∈ T, NodeOk n) (hp : PropRow w b2 pv n.props) (hn : NodeOk n)
    (hown : w'.ownsRow b1 52 3 v' (T.length + 1) (nodeCells T pvs ++ [.int .i64 n.parent, .string n.name, pv])) (hg : w.grownBy w' v.ownBlock) : TreeRow2 w' b1 b2 v' (T ++ [n]) := by
  refine ⟨pvs ++ [pv], by simp [h1], ?_, ?_, ?_⟩
  · rw [nodeCells_snoc T pvs n pv h1, List.length_append]; exact hown
  · intro k hk hk2
    by_cases e : k < T.length
    · have : PropRow w' b2 pvs[k] T[k].props := (h3 k e (by omega)).apart h2 hg (by decide)
      simpa [List.getElem_append_left, e, h1] using this
    · have e2 : k = T.length := by simp at hk; omega
      subst e2
      have : PropRow w' b2 pv n.props := hp.apart h2 hg (by decide)
      simpa [List.getElem_append_right, h1] using this
  · intro m hm
    rcases List.mem_append.1 hm with hm | hm
    · exact h4 m hm
    · simp at hm; subst hm; exact hn
theorem TreeRow2.nil (w : World) (b1 b2 : Nat) : TreeRow2 w b1 b2 (.slice none 0 0) [] := ⟨[], rfl, World.ownsRow_nil _ _ _ _, fun k h => absurd h (Nat.not_lt_zero k), fun _ h => by cases h⟩
def SortRel (L : List NodeT) (base OB : Nat) (w2 : World) (f : Nat) (x : Value) (wr : World) : Prop :=
  ∃ (i : Nat) (v : Value), x = .int .i64 i ∧ i ≤ L.length ∧ L.length ≤ i + f ∧ TreeRow2 wr w2.heap.size base v ((sortedT L).take i) ∧ Holds wr OB #[v] 25 ∧ Below w2.heap.size w2 wr
/-- The cells of a node of a tree of the call's own. -/
theorem TreeRow.at {w : World} {base g n cap : Nat} {T : List NodeT} (h : TreeRow w base (.slice (some ⟨g, 0, none⟩) n cap) T) (k : Nat) (hk : k < T.length) :
    ∃ pv pa pc, pv = .slice pa T[k].props.length pc ∧ w.cell? ⟨g, k * 3, none⟩ = some (.int .i64 T[k].parent) ∧ w.cell? ⟨g, k * 3 + 1, none⟩ = some (.string T[k].name) ∧ w.cell? ⟨g, k * 3 + 2, none⟩ = some pv ∧ PropRow w base pv T[k].props ∧ NodeOk T[k] := by
  obtain ⟨pvs, h1, h2, h3, h4⟩ := h
  have hn : n = T.length := by
    rcases h2.2 with ⟨e, _⟩ | ⟨_, _, _, e, _⟩
    · cases e
    · cases e; rfl
  subst hn
  obtain ⟨a0, a1, a2⟩ := nodeCells_at T pvs k hk (by omega) h1
  have hp := h3 k hk (by omega)
  obtain ⟨pa, pc, hpv⟩ := row_slice hp.1
  exact ⟨_, pa, pc, hpv, (h2.cellAt _ (by omega)).trans a0, (h2.cellAt _ (by omega)).trans a1, (h2.cellAt _ (by omega)).trans a2, hp, h4 _ (List.getElem_mem hk)⟩
theorem TreeRow.keeps {S : Nat → Prop} {w w' : World} {base : Nat} {v : Value} {T : List NodeT} (h : TreeRow w base v T) (k : Keeps S w w') (hs : ∀ g, S g → w.heap.size ≤ g ∨ ∃ cs t, Holds w g cs t ∧ t ≠ 52 ∧ t ≠ 54) : TreeRow w' base v T := by
  obtain ⟨pvs, h1, h2, h3, h4⟩ := h
  have key : ∀ {e : TypeId} {size : Nat} {v : Value} {n : Nat} {xs : List Value}, w.ownsRow base e size v n xs → e = 52 ∨ e = 54 → w'.ownsRow base e size v n xs := by
    intro e size v n xs ho he
    refine ownsRow_keeps ho k (fun g hg hsg => ?_)
    rcases hs g hsg with h | ⟨cs, t, hH, n1, n2⟩
    · have := (ho.lt g hg).2; omega
    · refine owns_ne_holds ho hH ?_ hg
      rcases he with rfl | rfl
      · exact n1
      · exact n2
  exact ⟨pvs, h1, key h2 (.inl rfl), fun j hj hj2 => ⟨key (h3 j hj hj2).1 (.inr rfl), (h3 j hj hj2).2⟩, h4⟩
def SortMid (L : List NodeT) (k Nd : Nat) (pv : Value) (wr : World) (y : Value) (wx : World) : Prop :=
  y = .pointer (some ⟨Nd, 0, none⟩) ∧ Holds wx Nd #[.int .i64 (moveT L k).parent, .string (moveT L k).name, pv] 52 ∧ Below wr.heap.size wr wx

set_option maxRecDepth 100000 in
set_option maxHeartbeats 4000000 in
theorem ref3_Sorted (base : Nat) (v : Value) (L : List NodeT) (w : World) (hT : TreeRow w base v L) (hpar : Par L) (hl0 : 0 < L.length) (hl : L.length ≤ 120) (hbase : base ≤ w.heap.size) :
    Calls Tryz.prog 80 #[.agg #[v]] w fun e w' => ∃ v', e = .returned (.agg #[v']) ∧ TreeRow w' base v' (sortedT L) ∧ Below w.heap.size w w' := by
  obtain ⟨lg, lc, rfl, hlg⟩ : ∃ lg lc, v = .slice (some ⟨lg, 0, none⟩) L.length lc ∧ lg < w.heap.size := by
    obtain ⟨_, _, g2, _⟩ := hT
    obtain ⟨g, c, e, _, h2⟩ := g2.form hl0
    exact ⟨g, c, e, h2⟩
  have HT := Lib.hid hT
  have hwk := fun wx hx => ref3_walk (fun g => base ≤ g) (.slice (some ⟨lg, 0, none⟩) L.length lc) L hpar hl L.length 0 wx hx hl0 (by omega)
  unfold WalkPost at hwk
  simp only [Nat.sub_zero] at hwk
  have hol := ordT_len hpar hl0
  rw [show walkR L L.length 0 = ordT L from rfl, show ((0 : Nat) : Int) = 0 from rfl, hol] at hwk
  have HWK := Lib.hid hwk
  have HOL := Lib.hid hol
  have HPAR := Lib.hid hpar
  obtain ⟨ho1, ho2⟩ := ordT_spec hpar hl0
  have HO1 := Lib.hid ho1
  have HND := Lib.hid (ltI_nodup ho2)
  clear hT hwk hol hpar ho1 ho2
  have hmk := make_ints L.length (by omega)
  go_enter Tryz.func80, Tryz.ntmps80
  go_wp2_with fail
  refine (HWK.out _ (by exact (HT.out.new (((Below.refl _ _).alloc (Nat.le_refl _) _).alloc (by simp) _)).in)).mono ?_
  rintro e w1 ⟨rv, rfl, hown, hb1⟩
  have hX1 := ((Holds.new w #[.slice (some ⟨lg, 0, none⟩) L.length lc] 25).alloc (.cells #[.slice none 0 0] 25)).keeps (Keeps.of_fresh hb1 (fun _ => False)) (fun e => e)
  have hZ1 := (Holds.newAt (w := w.alloc (.cells #[.slice (some ⟨lg, 0, none⟩) L.length lc] 25)) (B := w.heap.size + 1) (by simp) #[.slice none 0 0] 25).keeps (Keeps.of_fresh hb1 (fun _ => False)) (fun e => e)
  have hb2 : Below w.heap.size w w1 := (((Below.refl _ _).alloc (Nat.le_refl _) _).alloc (by simp) _).trans (hb1.mono (by simp; omega))
  have hT1 := HT.out.new hb2
  obtain ⟨og, oc, rfl, hog1, hog2⟩ := hown.form hl0
  simp only [World.size_alloc] at hog1
  have hs1 := hb1.size
  simp only [World.size_alloc] at hs1
  have x0 := hX1.cell 0
  have xl := hX1.lt
  clear hb1 HWK
  go_wp2_with fail
  clear hmk x0 xl
  have hAB := Holds.new w1 (natArr (List.replicate L.length 0)) 3
  have hrep : natArr (List.replicate L.length 0) = Array.replicate L.length (.int .i64 0) := by simp [natArr, natCells]
  go_loopg [19] (L.length) (fun f x wr => AtRel L w1.heap.size (w1.alloc (.cells (Array.replicate L.length (.int .i64 0)) 3)) f x wr)
  case atStart => exact ⟨0, List.replicate L.length 0, rfl, by omega, by omega, by simp, fun q hq => absurd hq (Nat.not_lt_zero q), by rw [← hrep]; exact hAB, Keeps.refl _ _⟩
  case round =>
    obtain ⟨i, l, rfl, hi, hf, hll, hlq, hA, hK⟩ := hrel
    clear hAB hrep
    have HLQ := Lib.hid hlq
    clear hlq
    by_cases hlt : i < L.length
    · have hio : i < (ordT L).length := by rw [HOL.out]; exact hlt
      have hk := (HO1.out _).1 (List.getElem_mem hio)
      have hcc := (hK.cell (p := ⟨og, i, none⟩) (by simp; omega) (by show ¬ og = w1.heap.size; omega)).trans ((hown.alloc _).cellAt i (by omega))
      rw [show (natCells (ordT L))[i]? = some (.int .i64 ((ordT L)[i] : Int)) from by simp [natCells, hio]] at hcc
      have hne := Lib.hid (fun (q : Nat) (hq : q < i) (hqo : q < (ordT L).length) (e : (ordT L)[q] = (ordT L)[i]) => by
        have := (List.getElem_inj HND.out).1 e; omega : ∀ (q : Nat) (hq : q < i) (hqo : q < (ordT L).length), (ordT L)[q] = (ordT L)[i] → False)
      have hnew : ∀ (q : Nat) (_ : q < i + 1) (hq : q < (ordT L).length), (l.set (ordT L)[i] i).getD (ordT L)[q] 0 = q := by
        intro q hq hqo
        rw [getD_set _ _ _ _ (by omega)]
        by_cases e : q = i
        · subst e; rw [if_pos rfl]
        · rw [if_neg (fun x => hne.out q (by omega) hqo x.symm)]; exact HLQ.out q (by omega) hqo
      have HNEW := Lib.hid hnew
      clear hnew hne
      have a0 : ∃ x : Int, wr.cell? ⟨w1.heap.size, (ordT L)[i], none⟩ = some (.int .i64 x) := ⟨_, (hA.cell _).trans (natArr_at l _ (by omega))⟩
      have af := hA.free ((ordT L)[i])
      have al := hA.lt
      have hA2 := hA.set (ordT L)[i] (.int .i64 (i : Int))
      rw [natArr_set] at hA2
      generalize (ordT L)[i] = c at *
      obtain ⟨a1, a0⟩ := a0
      clear hio
      go_wp2_with fail
      go_roundg (gk - 1)
      case measure => omega
      case rel => exact ⟨i + 1, l.set c i, by go_num, by omega, by omega, by simpa using hll, HNEW.out, hA2, hK.setCell (p := ⟨w1.heap.size, c, none⟩) (.inr rfl) _⟩
    · have hfull := Lib.hid (show ∀ (q : Nat) (hq : q < (ordT L).length), l.getD (ordT L)[q] 0 = q from fun q hq => HLQ.out q (by have := HOL.out; omega) hq)
      clear HLQ hi hf
      have hX2 := (hX1.alloc (.cells (Array.replicate L.length (.int .i64 0)) 3)).keeps hK (by have := hX1.lt; omega)
      have hZ2 := (hZ1.alloc (.cells (Array.replicate L.length (.int .i64 0)) 3)).keeps hK (by have := hZ1.lt; omega)
      have hown2 := ownsRow_keeps (World.ownsRow.alloc hown (.cells (Array.replicate L.length (.int .i64 0)) 3)) hK (fun g hg e => by have e2 : og = g := Option.some.inj hg; omega)
      have hT2 : TreeRow wr base (.slice (some ⟨lg, 0, none⟩) L.length lc) L := (hT1.new ((Below.refl _ _).alloc (Nat.le_refl _) _)).keeps hK (fun g e => by
        subst e
        exact .inr ⟨_, _, Holds.new w1 (Array.replicate L.length (.int .i64 0)) 3, by decide, by decide⟩)
      have hb3 : Below w.heap.size w wr := (hb2.alloc hb2.size _).trans (hK.below (by simp; omega) (fun i hi e => by have := hb2.size; omega))
      clear hX1 hZ1 hown hT1 hb2 hK
      obtain ⟨w2, rfl⟩ : ∃ x : World, x = wr := ⟨_, rfl⟩
      have hs3 := hb3.size
      have hO3 := Holds.new w2 #[.slice none 0 0] 25
      have hog3 := (hown2.lt og rfl).2
      have hA3 := hA.lt
      have hX3 := hX2.lt
      have hZ3 := hZ2.lt
      go_wp2_with fail
      go_loopg [31] (L.length) (fun f x wr => SortRel L base w2.heap.size w2 f x wr)
      case atStart => exact ⟨0, _, rfl, by omega, by omega, by exact TreeRow2.nil _ _ _, hO3, (Below.refl _ _).alloc (Nat.le_refl _) _⟩
      case round =>
        obtain ⟨go, rfl⟩ : ∃ x : Nat, x = gk := ⟨_, rfl⟩
        obtain ⟨i, v, rfl, hi, hf, hR, hO, hb⟩ := hrel
        clear hO3
        have hbs := hb.size
        by_cases hlt : i < L.length
        · have hio : i < (ordT L).length := by rw [HOL.out]; exact hlt
          have hk := (HO1.out _).1 (List.getElem_mem hio)
          have hcc := (hb.cell (p := ⟨og, i, none⟩) hog3).trans (hown2.cellAt i (by omega))
          rw [show (natCells (ordT L))[i]? = some (.int .i64 ((ordT L)[i] : Int)) from by simp [natCells, hio]] at hcc
          have hTk := Lib.hid (show (sortedT L).take (i + 1) = (sortedT L).take i ++ [moveT L (ordT L)[i]] from by
            have h2 : i < (sortedT L).length := by simp [sortedT]; exact hio
            rw [List.take_succ_eq_append_getElem h2]; simp [sortedT])
          have hTl := Lib.hid (show ((sortedT L).take i).length = i from by simp [sortedT]; omega)
          generalize (sortedT L).take i = T0 at *
          generalize (ordT L)[i] = k at *
          clear hio
          obtain ⟨_, pa, pc, rfl, c0, c1, c2, hp, hok⟩ := (hT2.new hb).at k hk
          have hx0 := (hX2.keeps (Keeps.of_fresh hb (fun _ => False)) (fun e => e))
          have bx := hx0.cell 0
          have blt := hx0.lt
          have hlg2 : lg < wr.heap.size := by omega
          have HP := Lib.hid hp
          have HOK := Lib.hid hok
          have hmk : (moveT L k).name = L[k].name ∧ (moveT L k).props = L[k].props := ⟨nameOf_at hk, propsOf_at hk⟩
          have HMK := Lib.hid hmk
          clear hp hok hmk
          have hN0 := Holds.new wr #[.int .i64 L[k].parent, .string L[k].name, .slice pa L[k].props.length pc] 52
          have hb0 : Below wr.heap.size wr (wr.alloc (.cells #[.int .i64 L[k].parent, .string L[k].name, .slice pa L[k].props.length pc] 52)) := (Below.refl _ _).alloc (Nat.le_refl _) _
          go_upto_if 41 with fail
          go_cut [10] (fun y wx => SortMid L k wr.heap.size (.slice pa L[k].props.length pc) wr y wx)
          case first =>
            have n0 := hN0.cell 0
            have nf := hN0.free 0
            have nl := hN0.lt
            by_cases hk0 : k = 0
            · have hk1 : ¬ (0 : Int) < (k : Int) := by omega
              have hmp := Lib.hid (show (moveT L k).parent = L[k].parent from by
                unfold moveT; simp only; rw [if_pos hk0]; subst hk0; exact parOf_at hk)
              clear hk0
              go_wp2_with fail
              go_meet
              exact ⟨rfl, by rw [hmp.out, HMK.out.1]; exact hN0, hb0⟩
            · have hk1 : (0 : Int) < (k : Int) := by omega
              have hpl := parN_lt HPAR.out (by omega : 0 < k) hk
              obtain ⟨hpl1, hpl2⟩ := hpl
              rw [parOf_at hk] at hpl2
              have hpm := (HO1.out (parN L k)).2 (by omega)
              obtain ⟨hpi, hpe⟩ := idx_get hpm
              have hld := hfull.out _ hpi
              rw [hpe] at hld
              have hmp := Lib.hid (show (moveT L k).parent = (((ordT L).idxOf (parN L k) : Nat) : Int) from by unfold moveT; simp only; rw [if_neg hk0])
              have a0 : wr.cell? ⟨w1.heap.size, parN L k, none⟩ = some (.int .i64 (((ordT L).idxOf (parN L k) : Nat) : Int)) := by
                refine (hb.cell (p := ⟨w1.heap.size, parN L k, none⟩) hA3).trans ((hA.cell _).trans ?_)
                rw [natArr_at l _ (by omega)]
                rw [List.getD_eq_getElem?_getD, List.getElem?_eq_getElem (by omega)] at hld
                rw [← hld]; rfl
              have hA4 : w1.heap.size < wr.heap.size := by omega
              have hidl : (ordT L).idxOf (parN L k) < L.length := by have := HOL.out; omega
              clear hk0 hpm hpi hpe hld
              generalize (ordT L).idxOf (parN L k) = ix at *
              have HPE := Lib.hid hpl2
              have hpp : L[k].parent = ((parN L k : Nat) : Int) := hpl2.symm
              clear hpl2
              generalize parN L k = pk at *
              rw [hpp] at *
              clear hpp
              go_wp2_with fail
              go_meet
              exact ⟨rfl, by rw [hmp.out, HMK.out.1]; exact Holds.new wr _ _, (Below.refl _ _).alloc (Nat.le_refl _) _⟩
          case rest =>
            obtain ⟨rfl, hN, hb4⟩ := hcut
            clear hN0 hb0 bx blt hx0 c0 c1 c2 hcc
            have hO5 := hO.keeps (Keeps.of_fresh hb4 (fun _ => False)) (fun e => e)
            have hb5 := hb.trans (hb4.mono hbs)
            have hs5 := hb5.size
            have hP5 : PropRow wc base (.slice pa L[k].props.length pc) (moveT L k).props := by rw [HMK.out.2]; exact HP.out.new hb4
            have hok5 : NodeOk (moveT L k) := by
              refine ⟨by rw [HMK.out.1]; exact HOK.out.1, ?_, ?_⟩
              · unfold moveT; simp only
                split
                · rename_i h; subst h; rw [parOf_at hk]; exact HOK.out.2.1
                · omega
              · unfold moveT; simp only
                split
                · rename_i h; subst h; rw [parOf_at hk]; exact HOK.out.2.2
                · have h1 : (ordT L).idxOf (parN L k) ≤ (ordT L).length := List.idxOf_le_length
                  have h2 := HOL.out; omega
            obtain ⟨pvs, g1, g2, g3, g4⟩ := hR.new hb4
            have G3 := Lib.hid g3; have G4 := Lib.hid g4; have G1 := Lib.hid g1; have HP5 := Lib.hid hP5; have HOK5 := Lib.hid hok5
            have hTl2 := hTl.out
            have e1 : T0.length + 1 ≤ maxLen := by unfold maxLen; omega
            have e2 : (T0.length + 1) * 48 ≤ 140737488355328 := by omega
            clear g3 g4 g1 hR hO hTl2 hP5 hok5
            obtain ⟨xa, xc, rfl⟩ := row_slice g2
            have x0 := hO5.cell 0
            have xl := hO5.lt
            have m0 := hN.cell 0
            have m1 := hN.cell 1
            have m2 := hN.cell 2
            have ml := hN.lt
            generalize hmt : moveT L k = nd at *
            have HMT := Lib.hid hmt
            clear hmt
            obtain ⟨i0, hi2, hz0, hz1, hz2⟩ := info_parts infoNd
            go_wp2_with (at_builtin; refine wpList_append_own _ rfl _ _ 23 rfl w2.heap.size 52 i0 (.agg #[.int .i64 0, .string ⟨#[]⟩, .slice none 0 0]) 3 48 Tryz.underlying23 hi2 hz0 hz1 hz2 rfl (by decide) _ T0.length (nodeCells T0 pvs) rfl (by exact World.ownsRow.alloc g2 _) ⟨wc.heap.size, 0, none⟩ 1 1 [.int .i64 nd.parent, .string nd.name, .slice pa L[k].props.length pc] rfl rfl ?d1 ?d2 ?d3 ?d4 ?d5 ?_)
            case d1 => exact new_cells _ _ _ _ rfl _ rfl
            case d2 =>
              intro u hu
              simp at hu
              rcases hu with rfl | rfl | rfl <;> rfl
            case d3 => exact e1
            case d4 => exact e2
            case d5 => simp; omega
            intro v' w6 hown' hgrow _
            have hO6 := (hO5.alloc (.cells #[.int .i64 nd.parent, .string nd.name, .slice pa L[k].props.length pc] 52)).grown hgrow (owns_ne_holds g2 hO5 (by decide))
            have hb6 := (hb5.alloc hs5 (.cells #[.int .i64 nd.parent, .string nd.name, .slice pa L[k].props.length pc] 52)).grown hgrow (by simp; omega) (fun g hg => (g2.lt g hg).1)
            have hal : Below wc.heap.size wc (wc.alloc (.cells #[.int .i64 nd.parent, .string nd.name, .slice pa L[k].props.length pc] 52)) := (Below.refl _ _).alloc (Nat.le_refl _) _
            have hR6 : TreeRow2 w6 w2.heap.size base v' (T0 ++ [nd]) := TreeRow2.more G1.out (World.ownsRow.alloc g2 _) (fun q hq hq2 => (G3.out q hq hq2).new hal) G4.out (HP5.out.new hal) HOK5.out hown' hgrow
            obtain ⟨va, vc, rfl⟩ := row_slice hown'
            clear hgrow hown' x0 xl m0 m1 m2 ml
            have x0 := hO6.cell 0
            have xf := hO6.free 0
            have xl := hO6.lt
            go_wp2_with fail
            go_roundg (go - 1)
            case measure => omega
            case rel => exact ⟨i + 1, _, by go_num, by omega, by omega, by rw [hTk.out]; exact hR6.set hO6 (by decide) (by decide) 0 _, hO6.set 0 _, hb6.setCell (p := ⟨w2.heap.size, 0, none⟩) (Nat.le_refl _) _⟩
        · have hke : (sortedT L).take i = sortedT L := List.take_of_length_le (by simp [sortedT]; have := HOL.out; omega)
          rw [hke] at hR
          have hsl : (sortedT L).length = L.length := by simp [sortedT]; exact HOL.out
          have hZ5 := hZ2.keeps (Keeps.of_fresh hb (fun _ => False)) (fun e => e)
          have x0 := hO.cell 0
          have xl := hO.lt
          have zl := hZ5.lt
          have z0 := hZ5.cell 0
          have zf := hZ5.free 0
          have hR2 : TreeRow wr base v (sortedT L) := hR.one (by omega)
          have hR3 := hR2.set hZ5 (by decide) (by decide) 0 v
          have hb7 := (hb3.trans (hb.mono hs3)).setCell (p := ⟨w.heap.size + 1, 0, none⟩) (by simp) v
          obtain ⟨va, vc, hv⟩ : ∃ va vc, v = .slice va L.length vc := by obtain ⟨_, _, g2, _⟩ := hR; rw [hsl] at g2; exact row_slice g2
          subst hv
          clear hke hsl
          go_wp2_with fail
          have q0 : (wr.setCell ⟨w.heap.size + 1, 0, none⟩ (.slice va L.length vc)).cell? ⟨w.heap.size + 1, 0, none⟩ = some (.slice va L.length vc) := (hZ5.set 0 _).cell 0
          exact bodyPost_ret (v := .agg #[.slice va L.length vc]) (by simp [results, Tryz.results80, go_sem, q0]) rfl ⟨_, rfl, hR3, hb7⟩
end Go.Proofs.YtofhcgbihonckaaGreatDoor

namespace Go.Proofs.YtofhcgbihonckaaGreatDoor
open Go.RowKit

def EditPost (E : List NodeT × Int) (w : World) (e : Ending) (w' : World) : Prop := ∃ v, e = .returned (.tuple #[.agg #[v], .int .i64 E.2]) ∧ TreeRow w' w.heap.size v E.1 ∧ Below w.heap.size w w'
theorem check_props {T : List NodeT} (h : checkT T = 0) : ∀ n ∈ T, n.props.length ≤ 1000 := by
  intro n hn
  obtain ⟨k, hk, rfl⟩ := List.mem_iff_getElem.1 hn
  have h2 := check_limits h
  unfold limitsT at h2
  rw [Bool.and_eq_true, List.all_eq_true] at h2
  have := h2.2 _ hn
  rw [fit_split, Bool.and_eq_true, decide_eq_true_iff] at this
  omega

set_option maxRecDepth 100000 in
set_option maxHeartbeats 4000000 in
theorem ref3_Add (R : Nat → Prop) (v : Value) (T : List NodeT) (s name : ByteArray) (w : World) (hT : NodesIn R w v T) (hns : name.size ≤ 9223372036854775807) :
    Calls Tryz.prog 55 #[.agg #[v], .string s, .string name] w (EditPost (addT T s name) w) := by
  obtain ⟨a, cap, rfl, hc1, hc2⟩ := hT.shape
  have HT := Lib.hid hT; clear hT
  have hbg := fun wx hx => ref3_begin R (.slice a T.length cap) T s wx hx
  have hb0 : Below w.heap.size w ((w.alloc (.cells #[.slice a T.length cap] 25)).alloc (.cells #[.slice none 0 0] 25)) := ((Below.refl _ _).alloc (Nat.le_refl _) _).alloc (by simp) _
  have hX0 := (Holds.new w #[.slice a T.length cap] 25).alloc (.cells #[.slice none 0 0] 25)
  have hZ0 := Holds.newAt (w := w.alloc (.cells #[.slice a T.length cap] 25)) (B := w.heap.size + 1) (by simp) #[.slice none 0 0] 25
  rcases begin_cases T s with ⟨hne, h10⟩ | ⟨hck, k, hk, hbe, hps⟩
  · have hE := Lib.hid (show addT T s name = ([], (rBeginT T s).2) from by unfold addT; rw [if_pos hne])
    have hne' : ((rBeginT T s).2 != 0) = true := by simpa using hne
    rw [h10] at hbg
    have HBG := Lib.hid hbg
    clear hbg hne h10
    generalize (rBeginT T s).2 = c at *
    go_enter Tryz.func55, Tryz.ntmps55
    go_wp2_with fail
    refine (HBG.out _ (by exact HT.out.new hb0)).mono ?_
    rintro e w1 ⟨rfl, hb1⟩
    have hZ1 := hZ0.keeps (Keeps.of_fresh hb1 (fun _ => False)) (fun e => e)
    have hb2 := hb0.trans (hb1.mono (by simp; omega))
    have z0 := hZ1.cell 0
    have zf := hZ1.free 0
    have zl := hZ1.lt
    go_wp2_with fail
    have q0 : (w1.setCell ⟨w.heap.size + 1, 0, none⟩ (.slice none 0 0)).cell? ⟨w.heap.size + 1, 0, none⟩ = some (.slice none 0 0) := (hZ1.set 0 _).cell 0
    exact bodyPost_ret (v := .tuple #[.agg #[.slice none 0 0], .int .i64 c]) (by simp [results, Tryz.results55, go_sem, q0]) rfl ⟨_, by rw [hE.out], by rw [hE.out]; exact TreeRow.nil _ _, hb2.setCell (p := ⟨w.heap.size + 1, 0, none⟩) (by simp) _⟩
  · rw [hbe] at hbg
    have HBG := Lib.hid hbg
    have hE := Lib.hid (show addT T s name = if nameT name.data.toList = false then ([], 1) else if T.any (sameKid (k : Int) name) = true then ([], 5) else if 8 ≤ depF T T.length (k : Int) then ([], 2) else if 120 ≤ T.length then ([], 3) else (sortedT (T ++ [⟨(k : Int), name, []⟩]), 0) from by
      unfold addT; rw [hbe, if_neg (by simp)])
    have hln := limits_len (check_limits hck)
    have hnm := check_named hck
    have HPS := Lib.hid (check_props hck)
    obtain ⟨hl1, hl2⟩ := hln
    have hlv := Lib.hid (fun wx hx => ref3_level R (.slice a T.length cap) T k wx hx hnm (by omega) (by omega) (by omega))
    have HPAR := Lib.hid (par_of_named hnm)
    have hnt := fun wx => ref_Name name wx (by unfold maxLen; omega)
    clear hbg hbe hck hnm
    cases hnb : nameT name.data.toList with
    | false =>
      have hF := Lib.hid (show addT T s name = ([], 1) from by rw [hE.out, if_pos hnb])
      rw [hnb] at hnt
      have HNT := Lib.hid hnt
      clear hnt hnb hE
      go_enter Tryz.func55, Tryz.ntmps55
      go_wp2_with fail
      refine (HBG.out _ (by exact HT.out.new hb0)).mono ?_
      rintro e w1 ⟨rfl, hb1⟩
      have hZ1 := hZ0.keeps (Keeps.of_fresh hb1 (fun _ => False)) (fun e => e)
      have hb2 := hb0.trans (hb1.mono (by simp; omega))
      go_wp2_with fail
      refine (HNT.out _).mono ?_
      rintro e w2 ⟨rfl, rfl⟩
      have z0 := hZ1.cell 0
      have zf := hZ1.free 0
      have zl := hZ1.lt
      go_wp2_with fail
      have q0 : (w1.setCell ⟨w.heap.size + 1, 0, none⟩ (.slice none 0 0)).cell? ⟨w.heap.size + 1, 0, none⟩ = some (.slice none 0 0) := (hZ1.set 0 _).cell 0
      exact bodyPost_ret (v := .tuple #[.agg #[.slice none 0 0], .int .i64 1]) (by simp [results, Tryz.results55, go_sem, q0]) rfl ⟨_, by rw [hF.out], by rw [hF.out]; exact TreeRow.nil _ _, hb2.setCell (p := ⟨w.heap.size + 1, 0, none⟩) (by simp) _⟩
    | true =>
      rw [hnb] at hnt
      have HNT := Lib.hid hnt
      have hE2 := Lib.hid (show addT T s name = if T.any (sameKid (k : Int) name) = true then ([], 5) else if 8 ≤ depF T T.length (k : Int) then ([], 2) else if 120 ≤ T.length then ([], 3) else (sortedT (T ++ [⟨(k : Int), name, []⟩]), 0) from by rw [hE.out, hnb, if_neg (by simp)])
      clear hnt hnb hE
      go_enter Tryz.func55, Tryz.ntmps55
      go_wp2_with fail
      refine (HBG.out _ (by exact HT.out.new hb0)).mono ?_
      rintro e w1 ⟨rfl, hb1⟩
      have hZ1 := hZ0.keeps (Keeps.of_fresh hb1 (fun _ => False)) (fun e => e)
      have hX1 := hX0.keeps (Keeps.of_fresh hb1 (fun _ => False)) (fun e => e)
      have hb2 := hb0.trans (hb1.mono (by simp; omega))
      have bx := hX1.cell 0
      have bl := hX1.lt
      clear hb0 hX0 hZ0 hb1
      go_wp2_with fail
      refine (HNT.out _).mono ?_
      rintro e w2 ⟨rfl, rfl⟩
      go_wp2_with fail
      go_loopg [30] (T.length) (fun f x wr => ∃ i : Nat, x = .int .i64 i ∧ i ≤ T.length ∧ T.length ≤ i + f ∧ Hid (T.any (sameKid (k : Int) name) = (T.drop i).any (sameKid (k : Int) name)) ∧ Holds wr w.heap.size #[.slice a T.length cap] 25 ∧ Holds wr (w.heap.size + 1) #[.slice none 0 0] 25 ∧ Below w.heap.size w wr)
      case atStart => exact ⟨0, rfl, by omega, by omega, by simp [Hid], hX1, hZ1, hb2⟩
      case round =>
        clear bx bl
        obtain ⟨i, rfl, hi, hf, hA, hX, hZ, hb⟩ := hrel
        have hbs := hb.size
        have bx := hX.cell 0
        have bl := hX.lt
        by_cases hlt : i < T.length
        · obtain ⟨g, o, pa, pc, rfl, hg, c0, c1, c2, hp, p1, p2, b0, b1, b2⟩ := (HT.out.new hb).at i hlt
          have hstep := Lib.hid (show (T.drop i).any (sameKid (k : Int) name) = (sameKid (k : Int) name T[i] || (T.drop (i + 1)).any (sameKid (k : Int) name)) from by rw [List.drop_eq_getElem_cons hlt]; rfl)
          clear hp
          by_cases hpe : T[i].parent = (k : Int)
          · have hpe' : (T[i].parent == (k : Int)) = true := by simp [hpe]
            cases hne : (T[i].name.toList == name.toList) with
            | true =>
              have hF := Lib.hid (show addT T s name = ([], 5) from by
                rw [hE2.out, if_pos]
                rw [hA.out, hstep.out]
                have : sameKid (k : Int) name T[i] = true := by unfold sameKid; rw [decide_eq_true hpe, Bool.true_and]; exact hne
                rw [this]; rfl)
              have hbn := hb.alloc hbs (.cells #[.int .i64 T[i].parent, .string T[i].name, .slice pa T[i].props.length pc] 52)
              have hZn := hZ.alloc (.cells #[.int .i64 T[i].parent, .string T[i].name, .slice pa T[i].props.length pc] 52)
              clear hpe
              have z0 := hZn.cell 0
              have zf := hZn.free 0
              have zl := hZn.lt
              go_wp2_with fail
              have q0 : ((wr.alloc (.cells #[.int .i64 T[i].parent, .string T[i].name, .slice pa T[i].props.length pc] 52)).setCell ⟨w.heap.size + 1, 0, none⟩ (.slice none 0 0)).cell? ⟨w.heap.size + 1, 0, none⟩ = some (.slice none 0 0) := (hZn.set 0 _).cell 0
              exact bodyPost_ret (v := .tuple #[.agg #[.slice none 0 0], .int .i64 5]) (by simp [results, Tryz.results55, go_sem, q0]) rfl ⟨_, by rw [hF.out], by rw [hF.out]; exact TreeRow.nil _ _, hbn.setCell (p := ⟨w.heap.size + 1, 0, none⟩) (by simp) _⟩
            | false =>
              have hA2 := Lib.hid (show T.any (sameKid (k : Int) name) = (T.drop (i + 1)).any (sameKid (k : Int) name) from by
                rw [hA.out, hstep.out]
                have : sameKid (k : Int) name T[i] = false := by unfold sameKid; rw [show eqS T[i].name name = false from hne, Bool.and_false]
                rw [this, Bool.false_or])
              clear hpe
              go_wp2_with fail
              go_roundg (gk - 1)
              case measure => omega
              case rel => exact ⟨i + 1, by go_num, by omega, by omega, hA2, hX.alloc _, hZ.alloc _, hb.alloc hbs _⟩
          · have hpe' : (T[i].parent == (k : Int)) = false := by simpa using hpe
            have hA2 := Lib.hid (show T.any (sameKid (k : Int) name) = (T.drop (i + 1)).any (sameKid (k : Int) name) from by
              rw [hA.out, hstep.out]
              have : sameKid (k : Int) name T[i] = false := by unfold sameKid; rw [decide_eq_false hpe, Bool.false_and]
              rw [this, Bool.false_or])
            clear hpe
            go_wp2_with fail
            go_roundg (gk - 1)
            case measure => omega
            case rel => exact ⟨i + 1, by go_num, by omega, by omega, hA2, hX.alloc _, hZ.alloc _, hb.alloc hbs _⟩
        · have hE3 := Lib.hid (show addT T s name = if 8 ≤ depF T T.length (k : Int) then ([], 2) else if 120 ≤ T.length then ([], 3) else (sortedT (T ++ [⟨(k : Int), name, []⟩]), 0) from by
            rw [hE2.out, if_neg]
            rw [hA.out, List.drop_eq_nil_of_le (by omega)]; simp)
          clear hA hX1 hZ1 hb2
          by_cases h8 : 8 ≤ depF T T.length (k : Int)
          · have hF := Lib.hid (show addT T s name = ([], 2) from by rw [hE3.out, if_pos h8])
            clear hE2 hE3
            go_wp2_with fail
            refine (hlv.out _ (by exact HT.out.new hb)).mono ?_
            rintro e w3 ⟨rfl, hb3⟩
            have hZ3 := hZ.keeps (Keeps.of_fresh hb3 (fun _ => False)) (fun e => e)
            have hb4 := hb.trans (hb3.mono hbs)
            have z0 := hZ3.cell 0
            have zf := hZ3.free 0
            have zl := hZ3.lt
            go_wp2_with fail
            have q0 : (w3.setCell ⟨w.heap.size + 1, 0, none⟩ (.slice none 0 0)).cell? ⟨w.heap.size + 1, 0, none⟩ = some (.slice none 0 0) := (hZ3.set 0 _).cell 0
            exact bodyPost_ret (v := .tuple #[.agg #[.slice none 0 0], .int .i64 2]) (by simp [results, Tryz.results55, go_sem, q0]) rfl ⟨_, by rw [hF.out], by rw [hF.out]; exact TreeRow.nil _ _, hb4.setCell (p := ⟨w.heap.size + 1, 0, none⟩) (by simp) _⟩
          · by_cases h120 : 120 ≤ T.length
            · have hF := Lib.hid (show addT T s name = ([], 3) from by rw [hE3.out, if_neg h8, if_pos h120])
              have h8' : depF T T.length (k : Int) < 8 := by omega
              clear hE2 hE3 h8
              go_wp2_with fail
              refine (hlv.out _ (by exact HT.out.new hb)).mono ?_
              rintro e w3 ⟨rfl, hb3⟩
              have hZ3 := hZ.keeps (Keeps.of_fresh hb3 (fun _ => False)) (fun e => e)
              have hX3 := hX.keeps (Keeps.of_fresh hb3 (fun _ => False)) (fun e => e)
              have hb4 := hb.trans (hb3.mono hbs)
              clear bx bl
              have bx := hX3.cell 0
              have bl := hX3.lt
              have z0 := hZ3.cell 0
              have zf := hZ3.free 0
              have zl := hZ3.lt
              go_wp2_with fail
              have q0 : (w3.setCell ⟨w.heap.size + 1, 0, none⟩ (.slice none 0 0)).cell? ⟨w.heap.size + 1, 0, none⟩ = some (.slice none 0 0) := (hZ3.set 0 _).cell 0
              exact bodyPost_ret (v := .tuple #[.agg #[.slice none 0 0], .int .i64 3]) (by simp [results, Tryz.results55, go_sem, q0]) rfl ⟨_, by rw [hF.out], by rw [hF.out]; exact TreeRow.nil _ _, hb4.setCell (p := ⟨w.heap.size + 1, 0, none⟩) (by simp) _⟩
            · have hF := Lib.hid (show addT T s name = (sortedT (T ++ [⟨(k : Int), name, []⟩]), 0) from by rw [hE3.out, if_neg h8, if_neg h120])
              have h8' : depF T T.length (k : Int) < 8 := by omega
              have h120' : T.length < 120 := by omega
              have hcp := Lib.hid (fun wx hx => ref3_copied R (.slice a T.length cap) T wx hx hl2 HPS.out)
              clear hE2 hE3 h8 h120
              go_wp2_with fail
              refine (hlv.out _ (by exact HT.out.new hb)).mono ?_
              rintro e w3 ⟨rfl, hb3⟩
              have hZ3 := hZ.keeps (Keeps.of_fresh hb3 (fun _ => False)) (fun e => e)
              have hX3 := hX.keeps (Keeps.of_fresh hb3 (fun _ => False)) (fun e => e)
              have hb4 := hb.trans (hb3.mono hbs)
              clear bx bl hb3 hX hZ hb hbs
              have bx := hX3.cell 0
              have bl := hX3.lt
              go_wp2_with fail
              refine (hcp.out _ (by exact HT.out.new hb4)).mono ?_
              rintro e w4 ⟨cv, rfl, hR4, hb5⟩
              have hZ4 := hZ3.keeps (Keeps.of_fresh hb5 (fun _ => False)) (fun e => e)
              have hs4 := hb4.size
              have hb6 := hb4.trans (hb5.mono hs4)
              have hs6 := hb6.size
              have hzl := hZ4.lt
              have hR5 := hR4.base hs4
              clear hb5 hb4 hX3 hZ3 bx bl hR4
              obtain ⟨va, vc, hcv⟩ : ∃ va vc, cv = .slice va T.length vc := by obtain ⟨_, _, g2, _⟩ := hR5; exact row_slice g2
              subst hcv
              have hC4 := Holds.new w4 #[.slice va T.length vc] 25
              have hR6 := hR5.new ((Below.refl _ _).alloc (Nat.le_refl _) (.cells #[.slice va T.length vc] 25))
              obtain ⟨pvs, g1, g2, g3, g4⟩ := hR6
              have hZ5 := hZ4.alloc (.cells #[.slice va T.length vc] 25)
              have hb7 := hb6.alloc hs6 (.cells #[.slice va T.length vc] 25)
              have hs7 := hb7.size
              have G1 := Lib.hid g1; have G2 := Lib.hid g2; have G3 := Lib.hid g3; have G4 := Lib.hid g4
              have e1 : T.length + 1 ≤ maxLen := by unfold maxLen; omega
              have e2 : (T.length + 1) * 48 ≤ 140737488355328 := by omega
              clear g1 g2 g3 g4 hR5 hb6 hZ4
              obtain ⟨i0, hi2, hz0, hz1, hz2⟩ := info_parts infoNd
              go_wp2_with (at_builtin; refine wpList_append_own _ rfl _ _ 23 rfl w.heap.size 52 i0 (.agg #[.int .i64 0, .string ⟨#[]⟩, .slice none 0 0]) 3 48 Tryz.underlying23 hi2 hz0 hz1 hz2 rfl (by decide) _ T.length (nodeCells T pvs) rfl (by exact World.ownsRow.alloc G2.out _) ⟨w4.heap.size + 1, 0, none⟩ 1 1 [.int .i64 k, .string name, .slice none 0 0] rfl rfl ?d1 ?d2 ?d3 ?d4 ?d5 ?_)
              case d1 => exact new_cells _ _ _ _ (by simp) _ rfl
              case d2 =>
                intro u hu
                simp at hu
                rcases hu with rfl | rfl | rfl <;> rfl
              case d3 => exact e1
              case d4 => exact e2
              case d5 => simp; omega
              intro v' w6 hown' hgrow _
              have hal : Below (w4.alloc (.cells #[.slice va T.length vc] 25)).heap.size (w4.alloc (.cells #[.slice va T.length vc] 25)) ((w4.alloc (.cells #[.slice va T.length vc] 25)).alloc (.cells #[.int .i64 k, .string name, .slice none 0 0] 52)) := (Below.refl _ _).alloc (Nat.le_refl _) _
              have hC6 := (hC4.alloc (.cells #[.int .i64 k, .string name, .slice none 0 0] 52)).grown hgrow (owns_ne_holds G2.out hC4 (by decide))
              have hZ6 := (hZ5.alloc (.cells #[.int .i64 k, .string name, .slice none 0 0] 52)).grown hgrow (owns_ne_holds G2.out hZ5 (by decide))
              have hb8 := (hb7.alloc hs7 (.cells #[.int .i64 k, .string name, .slice none 0 0] 52)).grown hgrow (by simp; omega) (fun g hg => (G2.out.lt g hg).1)
              have hR7 : TreeRow w6 w.heap.size v' (T ++ [⟨(k : Int), name, []⟩]) := TreeRow.more (n := (⟨(k : Int), name, []⟩ : NodeT)) G1.out (World.ownsRow.alloc G2.out _) (fun q hq hq2 => (G3.out q hq hq2).new hal) G4.out (PropRow.nil _ _) ⟨hns, by show _ ≤ (k : Int); omega, by show (k : Int) ≤ _; omega⟩ hown' hgrow
              obtain ⟨va2, vc2, rfl⟩ := row_slice hown'
              have hpm := par_more (n := (⟨(k : Int), name, []⟩ : NodeT)) HPAR.out rfl hk
              have hlen : (T ++ [(⟨(k : Int), name, []⟩ : NodeT)]).length = T.length + 1 := by simp
              have hR8 := hR7.set hC6 (by decide) (by decide) 0 (.slice va2 (T.length + 1) vc2)
              have hZ8 : Holds (w6.setCell ⟨w4.heap.size, 0, none⟩ (.slice va2 (T.length + 1) vc2)) (w.heap.size + 1) #[.slice none 0 0] 25 := hZ6.other _ _ (by show w.heap.size + 1 ≠ w4.heap.size; omega)
              have hb9 := hb8.setCell (p := ⟨w4.heap.size, 0, none⟩) hs6 (.slice va2 (T.length + 1) vc2)
              have hC8 := hC6.set 0 (.slice va2 (T.length + 1) vc2)
              have c0 := hC6.cell 0
              have cf := hC6.free 0
              have cl := hC6.lt
              have hsr := Lib.hid (fun wx hx hbx => ref3_Sorted w.heap.size (.slice va2 (T.length + 1) vc2) (T ++ [(⟨(k : Int), name, []⟩ : NodeT)]) wx hx hpm (by omega) (by omega) hbx)
              clear hpm hR7 hZ6 hb8 hZ5 hb7 hs7 hal hgrow hown' hC4
              have hs9 := hb9.size
              go_wp2_with fail
              refine (hsr.out _ (by exact hR8) (by exact hs9)).mono ?_
              rintro e w7 ⟨sv, rfl, hR9, hb10⟩
              have hZ9 := hZ8.keeps (Keeps.of_fresh hb10 (fun _ => False)) (fun e => e)
              have hb11 := hb9.trans (hb10.mono hs9)
              have z0 := hZ9.cell 0
              have zf := hZ9.free 0
              have zl := hZ9.lt
              have hR10 := hR9.set hZ9 (by decide) (by decide) 0 sv
              obtain ⟨sa, sn, sc, hsv⟩ : ∃ sa sn sc, sv = .slice sa sn sc := by obtain ⟨_, _, g2, _⟩ := hR9; obtain ⟨x, y, e⟩ := row_slice g2; exact ⟨_, _, _, e⟩
              subst hsv
              clear hlen
              go_wp2_with fail
              have q0 : (w7.setCell ⟨w.heap.size + 1, 0, none⟩ (.slice sa sn sc)).cell? ⟨w.heap.size + 1, 0, none⟩ = some (.slice sa sn sc) := (hZ9.set 0 _).cell 0
              exact bodyPost_ret (v := .tuple #[.agg #[.slice sa sn sc], .int .i64 0]) (by simp [results, Tryz.results55, go_sem, q0]) rfl ⟨_, by rw [hF.out], by rw [hF.out]; exact hR10, hb11.setCell (p := ⟨w.heap.size + 1, 0, none⟩) (by simp) _⟩
end Go.Proofs.YtofhcgbihonckaaGreatDoor

namespace Go.Proofs.YtofhcgbihonckaaGreatDoor
open Go.RowKit

theorem hasT_def (l : List PropT) (x : ByteArray) : hasT l x = match l[lowT l x]? with | some p => eqS p.name x | none => false := rfl
def PutRest (ps : List PropT) (q : Nat) (a : Option Addr) (w3 : World) (y : Value) (wx : World) : Prop :=
  ∃ (ra : Option Addr) (rc : Nat) (n : Nat), y = .slice ra (ps.length - q) rc ∧ (q < ps.length → ∃ g o, a = some ⟨g, o, none⟩ ∧ ra = some ⟨g, o + q * 2, none⟩) ∧ w3.drewN n = wx
theorem propCells_take : ∀ (ps : List PropT) (k : Nat), propCells (ps.take k) = (propCells ps).take (k * 2)
  | [], k => by simp [propCells]
  | p :: ps, 0 => by simp [propCells]
  | p :: ps, k + 1 => by
    rw [show (k + 1) * 2 = k * 2 + 1 + 1 from by omega]
    simp only [List.take_succ_cons, propCells]
    rw [propCells_take ps k]
theorem propCells_drop : ∀ (ps : List PropT) (k : Nat), propCells (ps.drop k) = (propCells ps).drop (k * 2)
  | [], k => by simp [propCells]
  | p :: ps, 0 => by simp [propCells]
  | p :: ps, k + 1 => by
    rw [show (k + 1) * 2 = k * 2 + 1 + 1 from by omega]
    simp only [List.drop_succ_cons, propCells]
    rw [propCells_drop ps k]
theorem cells_prefix {w : World} {g o : Nat} {ps : List PropT} (h : ∀ j u, (propCells ps)[j]? = some u → w.cell? ((⟨g, o, none⟩ : Addr).add j) = some u) (k : Nat) : ∀ j u, (propCells (ps.take k))[j]? = some u → w.cell? ((⟨g, o, none⟩ : Addr).add j) = some u := by
  intro j u hu
  rw [propCells_take, List.getElem?_take] at hu
  by_cases e : j < k * 2
  · rw [if_pos e] at hu; exact h j u hu
  · rw [if_neg e] at hu; cases hu
theorem cells_suffix {w : World} {g o : Nat} {ps : List PropT} (h : ∀ j u, (propCells ps)[j]? = some u → w.cell? ((⟨g, o, none⟩ : Addr).add j) = some u) (k : Nat) : ∀ j u, (propCells (ps.drop k))[j]? = some u → w.cell? ((⟨g, o + k * 2, none⟩ : Addr).add j) = some u := by
  intro j u hu
  rw [propCells_drop, List.getElem?_drop] at hu
  have := h _ u hu
  rw [Addr.add_lit] at this ⊢
  rw [show o + k * 2 + j = o + (k * 2 + j) from by omega]; exact this
set_option maxRecDepth 100000 in
set_option maxHeartbeats 4000000 in
theorem ref3_Put (R : Nat → Prop) (v : Value) (ps : List PropT) (p : PropT) (w : World) (hP : PropsIn R w v ps) (hl : ps.length ≤ 1000) (hpo : PropOk p) :
    Calls Tryz.prog 49 #[v, .agg #[.string p.name, .string p.value]] w fun e w' => ∃ rv, e = .returned rv ∧ PropRow w' w.heap.size rv (putT ps p) ∧ Below w.heap.size w w' := by
  obtain ⟨a, cap, rfl, hc1, hc2⟩ := hP.shape
  have HP := Lib.hid hP; clear hP
  have HPO := Lib.hid hpo; clear hpo
  have hB0 := Holds.new w #[.string p.name, .string p.value] 54
  have hb0 : Below w.heap.size w (w.alloc (.cells #[.string p.name, .string p.value] 54)) := (Below.refl _ _).alloc (Nat.le_refl _) _
  have n0 := hB0.cell 0
  have n1 := hB0.cell 1
  have nl := hB0.lt
  go_enter Tryz.func49, Tryz.ntmps49
  go_upto_block 0 with fail
  go_cut [5] (fun y wx => ∃ n, y = .int .i64 (lowT ps p.name) ∧ (w.alloc (.cells #[.string p.name, .string p.value] 54)).drewN n = wx)
  case first =>
    go_wp2_with fail
    go_loopg [5] (ps.length) (fun f y wx => ∃ (k n : Nat), y = .int .i64 k ∧ k ≤ ps.length ∧ ps.length ≤ k + f ∧ Hid (lowT ps p.name = k + ((ps.drop k).takeWhile (fun q => ltS q.name p.name)).length) ∧ (w.alloc (.cells #[.string p.name, .string p.value] 54)).drewN n = wx)
    case atStart => exact ⟨0, 0, rfl, by omega, by omega, by simp [Hid, lowT], rfl⟩
    case round =>
      obtain ⟨k, n, rfl, hk, hf, hS, rfl⟩ := hrel
      by_cases hlt : k < ps.length
      · obtain ⟨g, o, rfl, hg, c0, c1, b0, b1⟩ := (HP.out.new hb0).at k hlt
        have hkI : (k : Int) < (ps.length : Int) := by omega
        have hst := Lib.hid (low_step ps p.name k hlt)
        cases hne : Op.bytesLess ps[k].name.toList p.name.toList with
        | true =>
          have hS2 := Lib.hid (show lowT ps p.name = (k + 1 : Nat) + ((ps.drop (k + 1)).takeWhile (fun q => ltS q.name p.name)).length from by
            rw [hS.out, hst.out, if_pos (show ltS ps[k].name p.name = true from hne)]; simp; omega)
          go_wp2_with fail
          go_quiet (fail)
          go_wp2_with fail
          go_roundg (gk - 1)
          case measure => omega
          case rel => exact ⟨k + 1, _, by go_num, by omega, by omega, hS2, rfl⟩
        | false =>
          have hS2 := Lib.hid (show lowT ps p.name = k from by rw [hS.out, hst.out, if_neg (by rw [show ltS ps[k].name p.name = false from hne]; simp)]; rfl)
          go_wp2_with fail
          go_quiet (fail)
          go_wp2_with fail
          go_meet
          exact ⟨_, by rw [hS2.out], (drewN_two _ _ _).symm⟩
      · have hd : decide ((k : Int) < (ps.length : Int)) = false := by simp; omega
        have hS2 := Lib.hid (show lowT ps p.name = k from by rw [hS.out, List.drop_eq_nil_of_le (by omega)]; rfl)
        go_wp2_with fail
        go_quiet (fail)
        go_wp2_with fail
        go_meet
        exact ⟨_, by rw [hS2.out], (drewN_two _ _ _).symm⟩
  case rest =>
    obtain ⟨n, rfl, hw⟩ := hcut
    obtain ⟨w3, rfl⟩ : ∃ x : World, x = wc := ⟨_, rfl⟩
    have hB3 : Holds w3 w.heap.size #[.string p.name, .string p.value] 54 := by rw [← hw]; exact hB0.drewN n
    have hb3 : Below w.heap.size w w3 := by rw [← hw]; exact below_draws hb0 n
    clear hw hB0 hb0 n0 n1 nl
    have n0 := hB3.cell 0
    have n1 := hB3.cell 1
    have nl := hB3.lt
    have hlo := low_le ps p.name
    have hP3 := Lib.hid (HP.out.new hb3)
    have hre := rest_le ps p.name
    have hput := Lib.hid (show putT ps p = ps.take (lowT ps p.name) ++ p :: ps.drop (restT ps p.name) from rfl)
    have hrt := Lib.hid (show restT ps p.name = lowT ps p.name + if hasT ps p.name = true then 1 else 0 from rfl)
    have hat := Lib.hid (fun hk => has_at (l := ps) (x := p.name) hk)
    have hnn := Lib.hid (fun hk => has_none (l := ps) (x := p.name) hk)
    have hal := Lib.hid (show ∀ (q : Nat) (hq : q < ps.length), ∃ g o, a = some ⟨g, o, none⟩ from fun q hq => by
      obtain ⟨g, o, e, _⟩ := hP3.out.at q hq
      exact ⟨g, o, e⟩)
    generalize restT ps p.name = q at *
    generalize lowT ps p.name = k at *
    obtain ⟨hre1, hre2, hre3⟩ := hre
    have hkc : k ≤ cap := by omega
    go_upto_region 4 with fail
    go_cut [6] (fun y wx => PutRest ps k a w3 y wx)
    case first =>
      by_cases hck : cap = k
      · subst hck
        go_wp2_with fail
        go_meet
        exact ⟨a, 0, 0, by rw [show ps.length - cap = 0 from by omega], fun h => absurd h (by omega), rfl⟩
      · have hck2 : k < cap := by omega
        by_cases hkl : k < ps.length
        · obtain ⟨g, o, rfl⟩ := hal.out k hkl
          go_wp2_with fail
          go_meet
          exact ⟨_, _, 0, rfl, fun _ => ⟨g, o, rfl, rfl⟩, rfl⟩
        · have hke : ps.length = k := by omega
          cases a with
          | none =>
            go_wp2_with fail
            go_meet
            exact ⟨_, cap - k, 0, by rw [show ps.length - k = 0 from by omega], fun h => absurd h (by omega), rfl⟩
          | some ad =>
            go_wp2_with fail
            go_meet
            exact ⟨_, cap - k, 0, by rw [show ps.length - k = 0 from by omega], fun h => absurd h (by omega), rfl⟩
    case rest =>
      obtain ⟨ra0, rc0, m0, rfl, hra0, rfl⟩ := hcut
      go_upto_region 5 with fail
      go_cut [40] (fun y wx => ∃ n, y = .bool (hasT ps p.name) ∧ w3.drewN n = wx)
      case first =>
        by_cases hkl : k < ps.length
        · obtain ⟨g, o, rfl, hg, c0, c1, b0, b1⟩ := hP3.out.at k hkl
          have hkI : (k : Int) < (ps.length : Int) := by omega
          have hh := hat.out hkl
          cases hne : (ps[k].name.toList == p.name.toList) with
          | true =>
            have hH := Lib.hid (show hasT ps p.name = true from by rw [hh]; exact hne)
            clear hh
            go_wp2_with fail
            go_quiet (fail)
            go_wp2_with fail
            go_meet
            exact ⟨_, by rw [hH.out], (drewN_two _ _ _).symm⟩
          | false =>
            have hH := Lib.hid (show hasT ps p.name = false from by rw [hh]; exact hne)
            clear hh
            go_wp2_with fail
            go_quiet (fail)
            go_wp2_with fail
            go_meet
            exact ⟨_, by rw [hH.out], (drewN_two _ _ _).symm⟩
        · have hd : decide ((k : Int) < (ps.length : Int)) = false := by simp; omega
          have hH := Lib.hid (show hasT ps p.name = false from hnn.out (by omega))
          go_wp2_with fail
          go_quiet (fail)
          go_wp2_with fail
          go_meet
          exact ⟨_, by rw [hH.out], (drewN_two _ _ _).symm⟩
      case rest =>
        obtain ⟨m1, rfl, rfl⟩ := hcut
        have hrt2 := hrt.out
        go_upto_if 40 with fail
        go_cut [6] (fun y wx => PutRest ps q a w3 y wx)
        case first =>
          cases hh : hasT ps p.name with
          | false =>
            rw [hh] at hrt2
            have hqk : q = k := by simpa using hrt2
            subst hqk
            clear hrt2
            go_wp2_with fail
            go_meet
            exact ⟨ra0, rc0, _, rfl, hra0, rfl⟩
          | true =>
            rw [hh] at hrt2
            have hqk : q = k + 1 := by simpa using hrt2
            subst hqk
            clear hrt2 hra0
            obtain ⟨g, o, rfl⟩ := hal.out k (by omega)
            by_cases hck : cap = k + 1
            · subst hck
              go_wp2_with fail
              go_meet
              exact ⟨_, 0, _, by rw [show ps.length - (k + 1) = 0 from by omega], fun h => absurd h (by omega), rfl⟩
            · have hck2 : k + 1 < cap := by omega
              go_wp2_with fail
              go_meet
              exact ⟨_, _, _, rfl, fun _ => ⟨g, o, rfl, rfl⟩, rfl⟩
        case rest =>
          obtain ⟨ra, rc, m2, rfl, hra, hw⟩ := hcut
          have hB4 : Holds wc w.heap.size #[.string p.name, .string p.value] 54 := by rw [← hw]; exact hB3.drewN m2
          have hb4 : Below w.heap.size w wc := by rw [← hw]; exact below_draws hb3 m2
          have hP4 := Lib.hid (HP.out.new hb4)
          clear hw hB3 hb3 n0 n1 nl hP3 hrt hat hnn hra0 hrt2
          obtain ⟨w4, rfl⟩ : ∃ x : World, x = wc := ⟨_, rfl⟩
          have hs4 := hb4.size
          obtain ⟨i0, hi, hz0, hz1, hz2⟩ := info_parts infoProp
          go_upto_region 7 with fail
          go_cut [7] (fun y wx => ∃ ov, y = ov ∧ PropRow wx w.heap.size ov (ps.take k) ∧ Below w4.heap.size w4 wx)
          case first =>
            by_cases hk0 : k = 0
            · subst hk0
              cases a with
              | none =>
                go_wp2_with (at_builtin; refine wpList_append_zero rfl _ _ 50 rfl w.heap.size 54 i0 2 Tryz.underlying50 hi (.slice (some ⟨w4.heap.size, 0, none⟩) 0 0) 0 [] rfl (by exact row_empty rfl hs4) none cap rfl ?_)
                go_meet
                exact ⟨_, rfl, ⟨row_empty rfl hs4, fun _ h => by simp at h⟩, (Below.refl _ _).alloc (Nat.le_refl _) _⟩
              | some ad =>
                go_wp2_with (at_builtin; refine wpList_append_zero rfl _ _ 50 rfl w.heap.size 54 i0 2 Tryz.underlying50 hi (.slice (some ⟨w4.heap.size, 0, none⟩) 0 0) 0 [] rfl (by exact row_empty rfl hs4) (some ad) cap rfl ?_)
                go_meet
                exact ⟨_, rfl, ⟨row_empty rfl hs4, fun _ h => by simp at h⟩, (Below.refl _ _).alloc (Nat.le_refl _) _⟩
            · obtain ⟨g, o, hag, hgl, _, hpok, hpc, _⟩ := hP4.out.row (by omega)
              subst hag
              have HPC := Lib.hid hpc; have HPK := Lib.hid hpok
              clear hpc hpok
              have hk0' : 0 < k := by omega
              go_wp2_with (at_builtin; refine wpList_append_own _ rfl _ _ 50 rfl w.heap.size 54 i0 (.agg #[.string ⟨#[]⟩, .string ⟨#[]⟩]) 2 32 Tryz.underlying50 hi hz0 hz1 hz2 rfl (by decide) (.slice (some ⟨w4.heap.size, 0, none⟩) 0 0) 0 [] rfl (by exact row_empty rfl hs4) ⟨g, o, none⟩ k cap (propCells (ps.take k)) rfl ?c0 ?c1 ?c2 ?c3 ?c4 ?c5 ?_)
              case c0 => rw [propCells_len]; simp; omega
              case c1 => exact cells_below (cells_prefix HPC.out k) hgl ((Below.refl _ _).alloc (Nat.le_refl _) _)
              case c2 => exact propCells_one _
              case c3 => unfold maxLen; omega
              case c4 => omega
              case c5 => simp; omega
              intro v' w5 hown' hgrow _
              have hb5 : Below w4.heap.size w4 w5 := ((Below.refl w4.heap.size w4).alloc (Nat.le_refl _) (.cells #[] 54)).grown hgrow (by simp) (fun q hq => by have : w4.heap.size = q := Option.some.inj hq; omega)
              have hpk : ∀ x ∈ ps.take k, PropOk x := fun x hx => HPK.out x (List.mem_of_mem_take hx)
              have HPK2 := Lib.hid hpk
              clear hpk
              have hlen : (ps.take k).length = k := by simp; omega
              have HL := Lib.hid hlen
              clear hlen hgrow
              obtain ⟨va, vc, rfl⟩ := row_slice hown'
              go_wp2_with fail
              go_meet
              exact ⟨_, rfl, ⟨by rw [HL.out]; exact hown', HPK2.out⟩, hb5⟩
          case rest =>
            obtain ⟨ov, rfl, hO, hb5⟩ := hcut
            have hB5 := hB4.keeps (Keeps.of_fresh hb5 (fun _ => False)) (fun e => e)
            have hP5 := Lib.hid (hP4.out.new hb5)
            have hb6 := hb4.trans (hb5.mono hs4)
            have hs6 := hb6.size
            have n0 := hB5.cell 0
            have n1 := hB5.cell 1
            have nl := hB5.lt
            have hlen : (ps.take k).length = k := by simp; omega
            obtain ⟨hO1, hO2⟩ := hO
            rw [hlen] at hO1
            have HO2 := Lib.hid hO2
            clear hB4 hb4 hP4 hO2 hlen hb5
            obtain ⟨oa, oc, rfl⟩ := row_slice hO1
            have HO1 := Lib.hid hO1
            clear hO1
            go_wp2_with (at_builtin; refine wpList_append_own _ rfl (.tmp 50) (.tmp 52) 50 rfl w.heap.size 54 i0 (.agg #[.string ⟨#[]⟩, .string ⟨#[]⟩]) 2 32 Tryz.underlying50 hi hz0 hz1 hz2 rfl (by decide) _ k (propCells (ps.take k)) rfl (by exact World.ownsRow.alloc HO1.out _) ⟨wc.heap.size, 0, none⟩ 1 1 [.string p.name, .string p.value] rfl rfl ?d1 ?d2 ?d3 ?d4 ?d5 ?_)
            case d1 => exact new_cells _ _ _ _ rfl _ rfl
            case d2 => intro x hx; simp at hx; rcases hx with rfl | rfl <;> rfl
            case d3 => unfold maxLen; omega
            case d4 => omega
            case d5 => simp; omega
            intro v6 w6 hown6 hgrow6 _
            have hb7 := (hb6.alloc hs6 (.cells #[.string p.name, .string p.value] 54)).grown hgrow6 (by simp; omega) (fun g hg => (HO1.out.lt g hg).1)
            have hb67 : Keeps (fun i => some i = (Value.slice oa k oc).ownBlock) wc w6 := ((Keeps.refl _ wc).alloc _).grown hgrow6 (fun i hi => .inr hi.symm)
            have hs7 := hb7.size
            have hpok : ∀ x ∈ putT ps p, PropOk x := by
              intro x hx
              rw [hput.out] at hx
              rcases List.mem_append.1 hx with hx | hx
              · exact HO2.out x hx
              · rcases List.mem_cons.1 hx with rfl | hx
                · exact HPO.out
                · have hm := List.mem_of_mem_drop hx
                  obtain ⟨j, hj, rfl⟩ := List.mem_iff_getElem.1 hm
                  obtain ⟨_, _, _, _, _, _, b0, b1⟩ := hP5.out.at j hj
                  exact ⟨b0, b1⟩
            have HPK := Lib.hid hpok
            have hplen : Hid ((putT ps p).length = k + 1 + (ps.length - q)) := by
              show _ = _
              rw [hput.out]; simp; omega
            have hpcell : Hid (propCells (putT ps p) = propCells (ps.take k) ++ [.string p.name, .string p.value] ++ propCells (ps.drop q)) := by
              show _ = _
              rw [hput.out, propCells_app]; simp [propCells]
            have H6 := Lib.hid hown6
            obtain ⟨va, vc, rfl⟩ := row_slice hown6
            clear hown6 hpok hgrow6 n0 n1 nl hB5 hb6
            by_cases hq : q < ps.length
            · obtain ⟨g, o, hag, rfl⟩ := hra hq
              subst hag
              obtain ⟨g', o', e', hgl, _, _, hpc, _⟩ := hP5.out.row (by omega)
              cases e'
              have hgw : g < w.heap.size := by
                obtain ⟨_, _, e2, h2, _⟩ := HP.out.row (by omega)
                cases e2; exact h2
              have HPC := Lib.hid (cells_suffix hpc q)
              have hcs : ∀ j u, (propCells (ps.drop q))[j]? = some u → w6.cell? ((⟨g, o + q * 2, none⟩ : Addr).add j) = some u := by
                intro j u hu
                have h1 := HPC.out j u hu
                rw [Addr.add_lit] at h1 ⊢
                refine (hb67.cell (p := ⟨g, o + q * 2 + j, none⟩) hgl ?_).trans h1
                intro e
                have := (HO1.out.lt g e.symm).1
                omega
              have HCS := Lib.hid hcs
              clear hpc hcs hra
              go_wp2_with (at_builtin; refine wpList_append_own _ rfl (.tmp 53) (.tmp 54) 50 rfl w.heap.size 54 i0 (.agg #[.string ⟨#[]⟩, .string ⟨#[]⟩]) 2 32 Tryz.underlying50 hi hz0 hz1 hz2 rfl (by decide) _ (k + 1) (propCells (ps.take k) ++ [.string p.name, .string p.value]) rfl (by exact H6.out) ⟨g, o + q * 2, none⟩ (ps.length - q) rc (propCells (ps.drop q)) rfl ?f0 ?f1 ?f2 ?f3 ?f4 ?f5 ?_)
              case f0 => rw [propCells_len]; simp
              case f1 => exact HCS.out
              case f2 => exact propCells_one _
              case f3 => unfold maxLen; omega
              case f4 => omega
              case f5 => omega
              intro v8 w8 hown8 hgrow8 _
              have hb9 := hb7.grown hgrow8 hs7 (fun g hg => (H6.out.lt g hg).1)
              obtain ⟨va2, vc2, rfl⟩ := row_slice hown8
              clear hgrow8
              go_wp2_with fail
              go_ret
              exact ⟨.slice va2 (k + 1 + (ps.length - q)) vc2, rfl, ⟨by rw [hplen.out, hpcell.out]; simpa using hown8, HPK.out⟩, hb9⟩
            · have hz : ps.length - q = 0 := by omega
              rw [hz] at *
              clear hz hra
              have hd : Hid (ps.drop q = []) := List.drop_eq_nil_of_le (by omega)
              go_wp2_with (at_builtin; refine wpList_append_zero rfl (.tmp 53) (.tmp 54) 50 rfl w.heap.size 54 i0 2 Tryz.underlying50 hi _ (k + 1) (propCells (ps.take k) ++ [.string p.name, .string p.value]) rfl (by exact H6.out) ra rc rfl ?_)
              go_ret
              exact ⟨.slice va (k + 1) vc, rfl, ⟨by rw [hplen.out, hpcell.out, hd.out, show ps.length - q = 0 from by omega]; simpa [propCells] using H6.out, HPK.out⟩, hb7⟩
end Go.Proofs.YtofhcgbihonckaaGreatDoor
