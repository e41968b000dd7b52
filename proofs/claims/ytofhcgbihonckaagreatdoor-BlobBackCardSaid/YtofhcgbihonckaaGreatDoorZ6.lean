/- A map of pairs of a text and a number, used as a set. | The contract of Check of tree. | Contracts of tree: a property of a node. | The contract of Value of tree. -/
import Derived.Test.YtofhcgbihonckaaGreatDoorZ5
import Derived.Test.YtofhcgbihonckaaGreatDoorZ1
import Derived.DeepKeys4
import Derived.WideKeyElems
import Derived.WideKeyPair
import Derived.Maps.Keyed
import Derived.Maps.Own
import Derived.WalkLawsBesides

set_option linter.unusedVariables false
set_option linter.unusedSimpArgs false
set_option linter.unusedSectionVars false

namespace Go.Proofs.YtofhcgbihonckaaGreatDoor
open Go.RowKit Go.ChangeMaps

def keyV (x : ByteArray × Int) : Value := .agg #[.string x.1, .int .i64 x.2]
def KeyOk (x : ByteArray × Int) : Prop := x.1.size ≤ 9223372036854775807 ∧ -9223372036854775808 ≤ x.2 ∧ x.2 ≤ 9223372036854775807
theorem keyLawL : WideMaps.KeyLaw Tryz.prog 97 := deep_law_laid (by kernel_rfl) (m := 3) (by omega) (of_decide_eq_true (by kernel_rfl)) (by kernel_rfl) (by kernel_rfl)
theorem keyOf_pairs {P : Program} {k s i : TypeId} {f0 f1 : Field} (hu : P.underlying k = some (.struct #[f0, f1])) (hk : P.keyType k = true) (hc : P.cellsOf k = 2) (hs : P.underlying s = some .string) (hi : P.underlying i = some (.int .i64))
    (hcs : P.cellsOf s = 1) (hci : P.cellsOf i = 1) (h0 : f0.type = s) (h1 : f1.type = i) (o0 : f0.offset = 0) (o1 : f1.offset = 1) (n0 : (f0.name != "_") = true) (n1 : (f1.name != "_") = true) (hz : 1 ≤ P.types.size)
    (a : ByteArray) (b : Int) (ha : a.size ≤ maxLen) (hb : (Lit.int .i64 b).wf = true) : ∃ l, keyOf P k (.agg #[.string a, .int .i64 b]) = some l := by
  obtain ⟨m, hm⟩ : ∃ m, P.types.size = m + 1 := ⟨P.types.size - 1, by omega⟩
  rw [← Option.isSome_iff_exists]
  simp [keyOf, hu, hk, Value.formed, hc, Value.cells, hm, Program.keyLits, hcs, hci, hs, hi, h0, h1, o0, o1, n0, n1, ha, hb]
theorem keyOf_L (x : ByteArray × Int) (h : KeyOk x) : ∃ l, keyOf Tryz.prog 97 (keyV x) = some l := by
  obtain ⟨h1, h2, h3⟩ := h
  have hw : (Lit.int .i64 x.2).wf = true := by simp [Lit.wf, IntKind.min, IntKind.max, IntKind.signed, IntKind.bits]; omega
  have hs : x.1.size ≤ maxLen := by unfold maxLen; omega
  exact keyOf_pairs Tryz.underlying97 (by kernel_rfl) (by kernel_rfl) Tryz.underlying9 Tryz.underlying3 (by kernel_rfl) (by kernel_rfl) rfl rfl rfl rfl (by decide) (by decide) (of_decide_eq_true (by kernel_rfl)) x.1 x.2 hs hw
theorem keyV_inj {x y : ByteArray × Int} (h : keyV x = keyV y) : x = y := by
  unfold keyV at h
  simp at h
  exact Prod.ext h.1 h.2
/-- Block b is the set of these pairs. -/
def SetAt (w : World) (b : Nat) (S : List (ByteArray × Int)) : Prop :=
  ∃ es clock, w.heap[b]? = some (.map es clock) ∧ es.toList.map (·.key) = S.map keyV ∧ (∀ e ∈ es.toList, e.val = .bool true) ∧ (∀ x ∈ S, KeyOk x)
def memS (S : List (ByteArray × Int)) (x : ByteArray × Int) : Bool := S.any fun y => eqS y.1 x.1 && decide (y.2 = x.2)
theorem memS_iff (S : List (ByteArray × Int)) (x : ByteArray × Int) : memS S x = true ↔ x ∈ S := by
  unfold memS
  rw [List.any_eq_true]
  constructor
  · rintro ⟨y, hy, h⟩
    simp only [Bool.and_eq_true, decide_eq_true_eq, eqS_iff] at h
    have : y = x := Prod.ext h.1 h.2
    exact this ▸ hy
  · intro h; exact ⟨x, h, by simp [eqS_iff]⟩
theorem SetAt.keys {w : World} {b : Nat} {S : List (ByteArray × Int)} {es : Array MapEntry} {clock : Nat} (_h : w.heap[b]? = some (.map es clock)) (hk : es.toList.map (·.key) = S.map keyV) (hS : ∀ x ∈ S, KeyOk x) :
    ∀ e ∈ es.toList, ∃ l, keyOf Tryz.prog 97 e.key = some l := by
  intro e he
  have : e.key ∈ S.map keyV := by rw [← hk]; exact List.mem_map.2 ⟨e, he, rfl⟩
  obtain ⟨x, hx, e1⟩ := List.mem_map.1 this
  rw [← e1]; exact keyOf_L x (hS x hx)
theorem SetAt.look {w : World} {b : Nat} {S : List (ByteArray × Int)} (h : SetAt w b S) (x : ByteArray × Int) (hx : KeyOk x) :
    (Instr.lookup 95 (.map (some b)) (keyV x) false).run Tryz.prog w = .ok (.bool (memS S x)) w := by
  obtain ⟨es, clock, hb, hk, hv, hS⟩ := h
  obtain ⟨l, hl⟩ := keyOf_L x hx
  have hz : (zeroValue 4).run Tryz.prog w = .ok (.bool false) w := by kernel_rfl
  rcases keyLawL.find w hl es.toList (SetAt.keys hb hk hS) with ⟨h1, h2⟩ | ⟨j, e0, h1, h2, h3⟩
  · have hm : memS S x = false := by
      rw [Bool.eq_false_iff]
      intro hc
      have hmem := (memS_iff S x).1 hc
      have : keyV x ∈ es.toList.map (·.key) := by rw [hk]; exact List.mem_map.2 ⟨x, hmem, rfl⟩
      obtain ⟨e, he, e1⟩ := List.mem_map.1 this
      exact h2 e he e1
    rw [hm]
    simp [Instr.lookup, run_underlying Tryz.underlying95, MapKept.run_getObj_map hb, keyLawL.check w _ hl, h1, hz, Result.andThen]
  · have hm : memS S x = true := by
      rw [memS_iff]
      have : e0.key ∈ S.map keyV := by rw [← hk]; exact List.mem_map.2 ⟨e0, List.mem_of_getElem? h2, rfl⟩
      obtain ⟨y, hy, e1⟩ := List.mem_map.1 this
      rw [h3] at e1
      rw [← keyV_inj e1]; exact hy
    rw [hm]
    have hval := hv e0 (List.mem_of_getElem? h2)
    simp [Instr.lookup, run_underlying Tryz.underlying95, MapKept.run_getObj_map hb, keyLawL.check w _ hl, h1, hval, Result.andThen]
theorem SetAt.put {w : World} {b : Nat} {S : List (ByteArray × Int)} (h : SetAt w b S) (x : ByteArray × Int) (hx : KeyOk x) (hn : memS S x = false) :
    ∃ o, (Instr.mapUpdate 95 (.map (some b)) (keyV x) (.bool true)).run Tryz.prog w = .ok () (setBlock w b o) ∧ SetAt (setBlock w b o) b (S ++ [x]) := by
  obtain ⟨es, clock, hb, hk, hv, hS⟩ := h
  obtain ⟨l, hl⟩ := keyOf_L x hx
  rcases keyLawL.find w hl es.toList (SetAt.keys hb hk hS) with ⟨h1, h2⟩ | ⟨j, e0, h1, h2, h3⟩
  · refine ⟨.map (es.push ⟨keyV x, .bool true, clock⟩) (clock + 1), ?_, es.push ⟨keyV x, .bool true, clock⟩, clock + 1, heap_setBlock_same hb _, ?_, ?_, ?_⟩
    · simp [Instr.mapUpdate, run_underlying Tryz.underlying95, MapKept.run_getObj_map hb, keyLawL.check w false hl, h1, MapKept.run_setObj_map _ hb, Result.andThen, setBlock]
    · simp [hk]
    · intro e he
      simp only [Array.toList_push, List.mem_append, List.mem_singleton] at he
      rcases he with he | rfl
      · exact hv e he
      · rfl
    · intro y hy
      rcases List.mem_append.1 hy with hy | hy
      · exact hS y hy
      · simp only [List.mem_singleton] at hy; subst hy; exact hx
  · exfalso
    have : e0.key ∈ S.map keyV := by rw [← hk]; exact List.mem_map.2 ⟨e0, List.mem_of_getElem? h2, rfl⟩
    obtain ⟨y, hy, e1⟩ := List.mem_map.1 this
    rw [h3] at e1
    have := (memS_iff S x).2 (keyV_inj e1 ▸ hy)
    rw [hn] at this; cases this
theorem SetAt.block {w w' : World} {b : Nat} {S : List (ByteArray × Int)} (h : SetAt w b S) (e : w'.heap[b]? = w.heap[b]?) : SetAt w' b S := by
  obtain ⟨es, clock, hb, r⟩ := h
  exact ⟨es, clock, by rw [e]; exact hb, r⟩
theorem SetAt.lt {w : World} {b : Nat} {S : List (ByteArray × Int)} (h : SetAt w b S) : b < w.heap.size := by
  obtain ⟨es, clock, hb, _⟩ := h; exact lt_of_block hb
theorem SetAt.alloc {w : World} {b : Nat} {S : List (ByteArray × Int)} (h : SetAt w b S) (o : Obj) : SetAt (w.alloc o) b S := h.block (heap_alloc_old w o h.lt)
/-- The block of a map is put anew. -/
theorem below_setBlock {B : Nat} {a w : World} {b : Nat} {o : Obj} (h : Below B a w) (hb : B ≤ b) : Below B a (setBlock w b o) :=
  ⟨h.os, h.tape, h.output, by simpa [setBlock] using h.size, fun i hi => by
    rw [← h.block i hi]; simp only [setBlock]; exact Array.getElem?_setIfInBounds_ne (by omega)⟩
theorem holds_setBlock {w : World} {b g : Nat} {o : Obj} {cs : Array Value} {t : TypeId} (h : Holds w g cs t) (hne : b ≠ g) : Holds (setBlock w b o) g cs t := by
  show _ = _
  rw [← h.out]; simp only [setBlock]; exact Array.getElem?_setIfInBounds_ne hne
end Go.Proofs.YtofhcgbihonckaaGreatDoor

namespace Go.Proofs.YtofhcgbihonckaaGreatDoor
open Go.RowKit

theorem fitB_cases (n : NodeT) : (24 < n.props.length ∧ fitB n = false) ∨ (n.props.length ≤ 24 ∧ n.props.any bigB = true ∧ fitB n = false) ∨ (n.props.length ≤ 24 ∧ n.props.any bigB = false ∧ fitB n = true) := by
  have e : n.props.all (fun p => decide (p.value.size ≤ 256)) = !n.props.any bigB := by
    rw [Bool.eq_iff_iff]
    simp [bigB]
  unfold fitB
  rw [e]
  by_cases h : 24 < n.props.length
  · left; simp; omega
  · cases n.props.any bigB
    · right; right; simp; omega
    · right; left; simp; omega
theorem limits_false {T : List NodeT} (h : T.length = 0 ∨ 120 < T.length) : checkT T = 3 := by
  unfold checkT limitsT
  rw [decide_eq_false (by omega)]; rfl
theorem limits_fit {T : List NodeT} (h : T.all fitB = false) : checkT T = 3 := by
  unfold checkT limitsT
  rw [h, Bool.and_false]; rfl
theorem limits_true {T : List NodeT} (h0 : 1 ≤ T.length) (h1 : T.length ≤ 120) (h : T.all fitB = true) : limitsT T = true := by
  unfold limitsT
  rw [h, decide_eq_true ⟨h0, h1⟩]; rfl
theorem twinF_cons (i : Nat) (S : List (ByteArray × Int)) (n : NodeT) (r : List NodeT) : twinF i S (n :: r) = ((decide (0 < i) && memS S (n.name, n.parent)) || twinF (i + 1) (S ++ [(n.name, n.parent)]) r) := rfl

set_option maxHeartbeats 4000000 in
theorem tree_Check (R : Nat → Prop) (v : Value) (T : List NodeT) (w : World) (hT : NodesIn R w v T) :
    Calls Tryz.prog 32 #[.agg #[v]] w fun e w' => e = .returned (.int .i64 (checkT T)) ∧ Below w.heap.size w w' := by
  have hT0 := hT
  obtain ⟨a, cap, rfl, hc1, hc2⟩ := hT.shape
  have HT := Lib.hid hT; clear hT hT0
  by_cases hz : T.length = 0
  · have hzb : ((T.length : Int) == 0) = true := by simp [hz]
    have hC := Lib.hid (limits_false (.inl hz))
    clear hz
    go_enter Tryz.func32, Tryz.ntmps32
    go_wp2_with fail
    go_ret
    exact ⟨ret_int (by rw [hC.out]), (Below.refl _ _).alloc (Nat.le_refl _) _⟩
  · by_cases hbig : 120 < T.length
    · have hzb : ((T.length : Int) == 0) = false := by rw [beq_eq_false_iff_ne]; omega
      have hC := Lib.hid (limits_false (.inr hbig))
      clear hz
      go_enter Tryz.func32, Tryz.ntmps32
      go_wp2_with fail
      go_ret
      exact ⟨ret_int (by rw [hC.out]), (Below.refl _ _).alloc (Nat.le_refl _) _⟩
    · have hzb : ((T.length : Int) == 0) = false := by rw [beq_eq_false_iff_ne]; omega
      have hz1 : 1 ≤ T.length := by omega
      have hz2 : T.length ≤ 120 := by omega
      clear hz hbig
      go_enter Tryz.func32, Tryz.ntmps32
      go_wp2_with fail
      go_loopg [23] (T.length) (fun f x wr => ∃ k : Nat, x = .int .i64 k ∧ k ≤ T.length ∧ T.length ≤ k + f ∧ Hid (T.all fitB = (T.drop k).all fitB) ∧ Below w.heap.size w wr ∧ Holds wr w.heap.size #[.slice a T.length cap] 25)
      case atStart => exact ⟨0, rfl, by omega, by omega, by simp [Hid], (Below.refl _ _).alloc (Nat.le_refl _) _, Holds.new w _ _⟩
      case round =>
        obtain ⟨k, rfl, hk, hf, hA, hb, hB⟩ := hrel
        have hbs := hb.size
        by_cases hlt : k < T.length
        · obtain ⟨g, o, pa, pc, rfl, hg, c0, c1, c2, hp, p1, p2, b0, b1, b2⟩ := (HT.out.new hb).at k hlt
          have HPn := Lib.hid hp; clear hp
          have hdrop := Lib.hid (show (T.drop k).all fitB = (fitB T[k] && (T.drop (k + 1)).all fitB) from by rw [List.drop_eq_getElem_cons hlt]; rfl)
          rcases fitB_cases T[k] with ⟨h24, hfit⟩ | ⟨h24, hany, hfit⟩ | ⟨h24, hany, hfit⟩
          · have hF := Lib.hid hfit; clear hfit
            go_wp2_with fail
            go_ret
            exact ⟨ret_int (by rw [limits_fit (by rw [hA.out, hdrop.out, hF.out]; rfl)]), hb.alloc hbs _⟩
          · have hF := Lib.hid hfit; clear hfit
            have HANY := Lib.hid hany; clear hany
            go_wp2_with fail
            refine (props_ContainsFunc R _ T[k].props _ (by exact HPn.out.new ((Below.refl wr.heap.size wr).alloc (Nat.le_refl _) _))).mono ?_
            rw [HANY.out]
            rintro e w' ⟨rfl, hb'⟩
            go_wp2_with fail
            go_ret
            exact ⟨ret_int (by rw [limits_fit (by rw [hA.out, hdrop.out, hF.out]; rfl)]), (hb.alloc hbs _).trans (hb'.mono (by simp; omega))⟩
          · have hF := Lib.hid hfit; clear hfit
            have HANY := Lib.hid hany; clear hany
            go_wp2_with fail
            refine (props_ContainsFunc R _ T[k].props _ (by exact HPn.out.new ((Below.refl wr.heap.size wr).alloc (Nat.le_refl _) _))).mono ?_
            rw [HANY.out]
            rintro e w' ⟨rfl, hb'⟩
            have hlt' := hB.lt
            have hB' := (hB.alloc (.cells #[.int .i64 T[k].parent, .string T[k].name, .slice pa T[k].props.length pc] 52)).keeps (Keeps.of_fresh hb' (fun _ => False)) (fun e => e)
            go_wp2_with fail
            go_roundg (gk - 1)
            case measure => omega
            case rel => exact ⟨k + 1, by go_num, by omega, by omega, by show _ = _; rw [hA.out, hdrop.out, hF.out, Bool.true_and], (hb.alloc hbs _).trans (hb'.mono (by simp; omega)), hB'⟩
        · have hfits := Lib.hid (limits_true hz1 hz2 (by rw [hA.out, List.drop_eq_nil_of_le (by omega)]; rfl))
          have bx := hB.cell 0
          clear hA
          have hL : limitsT T = true := hfits.out
          clear hfits
          cases hnm : namedT T with
          | false =>
            have hC := Lib.hid (show checkT T = 1 from by unfold checkT; rw [hL, hnm]; rfl)
            have hN := fun wx hx => tree_named R (.slice a T.length cap) T wx hx
            rw [hnm] at hN
            have HN := Lib.hid hN; clear hN
            clear hnm hL
            go_wp2_with fail
            refine (HN.out _ (by exact HT.out.new hb)).mono ?_
            rintro e w' ⟨rfl, hb'⟩
            go_wp2_with fail
            go_ret
            exact ⟨ret_int (by rw [hC.out]), hb.trans (hb'.mono hbs)⟩
          | true =>
            have hN := fun wx hx => tree_named R (.slice a T.length cap) T wx hx
            rw [hnm] at hN
            have HN := Lib.hid hN; clear hN
            have hW := fun wx hx => tree_walked R (.slice a T.length cap) T wx hx hnm (by omega)
            have HNM := Lib.hid hnm
            have HLM := Lib.hid hL
            go_wp2_with fail
            refine (HN.out _ (by exact HT.out.new hb)).mono ?_
            rintro e w2 ⟨rfl, hb2⟩
            have hb3 := hb.trans (hb2.mono hbs)
            have hB2 := hB.keeps (Keeps.of_fresh hb2 (fun _ => False)) (fun e => e)
            have bx2 := hB2.cell 0
            cases hwk : walkedT T with
            | false =>
              have hC := Lib.hid (show checkT T = 12 from by unfold checkT; rw [hL, hnm, hwk]; rfl)
              rw [hwk] at hW
              have HW := Lib.hid hW; clear hW
              clear hwk hnm hL
              go_wp2_with fail
              refine (HW.out _ (by exact HT.out.new hb3)).mono ?_
              rintro e w' ⟨rfl, hb'⟩
              go_wp2_with fail
              go_ret
              exact ⟨ret_int (by rw [hC.out]), hb3.trans (hb'.mono hb3.size)⟩
            | true =>
              rw [hwk] at hW
              have HW := Lib.hid hW; clear hW
              have HWK := Lib.hid hwk
              clear hwk hnm hL
              have hmm := @run_makeMap Tryz.prog
              go_wp2_with fail
              refine (HW.out _ (by exact HT.out.new hb3)).mono ?_
              rintro e w4 ⟨rfl, hb4⟩
              have hb5 := hb3.trans (hb4.mono hb3.size)
              have hB4 := hB2.keeps (Keeps.of_fresh hb4 (fun _ => False)) (fun e => e)
              have bx4 := hB4.cell 0
              have blt4 := hB4.lt
              go_wp2_with fail
              go_loopg [47] (T.length) (fun f x wr => ∃ (k : Nat) (S : List (ByteArray × Int)), x = .int .i64 k ∧ k ≤ T.length ∧ T.length ≤ k + f ∧ Hid (twinT T = twinF k S (T.drop k)) ∧ (k = 0 → S = []) ∧ SetAt wr w4.heap.size S ∧ Below w.heap.size w wr ∧ Holds wr w.heap.size #[.slice a T.length cap] 25)
              case atStart =>
                refine ⟨0, [], rfl, by omega, by omega, rfl, fun _ => rfl, ⟨#[], 0, heap_alloc_new w4 _, rfl, ?_, ?_⟩, hb5.alloc hb5.size _, hB4.alloc _⟩
                · intro e he; simp at he
                · intro x hx; simp at hx
              case round =>
                obtain ⟨k, S, rfl, hk, hf, hTw, hS0, hS, hb, hB⟩ := hrel
                have hbs := hb.size
                have hms : w.heap.size ≤ w4.heap.size := hb5.size
                have hmlt := hS.lt
                by_cases hlt : k < T.length
                · obtain ⟨g, o, pa, pc, rfl, hg, c0, c1, c2, hp, p1, p2, b0, b1, b2⟩ := (HT.out.new hb).at k hlt
                  have hstep := Lib.hid (show twinF k S (T.drop k) = ((decide (0 < k) && memS S (T[k].name, T[k].parent)) || twinF (k + 1) (S ++ [(T[k].name, T[k].parent)]) (T.drop (k + 1))) from by rw [List.drop_eq_getElem_cons hlt]; rfl)
                  have hko : KeyOk (T[k].name, T[k].parent) := ⟨b0, b1, b2⟩
                  have hS2 := (hS.alloc (.cells #[.int .i64 T[k].parent, .string T[k].name, .slice pa T[k].props.length pc] 52)).alloc (.cells #[.string T[k].name, .int .i64 T[k].parent] 97)
                  have hb6 := (hb.alloc hbs (.cells #[.int .i64 T[k].parent, .string T[k].name, .slice pa T[k].props.length pc] 52)).alloc (by simp; omega) (.cells #[.string T[k].name, .int .i64 T[k].parent] 97)
                  have hB6 := (hB.alloc (.cells #[.int .i64 T[k].parent, .string T[k].name, .slice pa T[k].props.length pc] 52)).alloc (.cells #[.string T[k].name, .int .i64 T[k].parent] 97)
                  have hlook := hS2.look (T[k].name, T[k].parent) hko
                  unfold keyV at hlook
                  clear hp
                  by_cases hk0 : 0 < k
                  · have hk0b : decide (0 < k) = true := by simpa using hk0
                    cases hm : memS S (T[k].name, T[k].parent) with
                    | true =>
                      rw [hm] at hlook
                      have hC := Lib.hid (show checkT T = 5 from by
                        unfold checkT; rw [HLM.out, HNM.out, HWK.out, hTw.out, hstep.out, hm, hk0b]; rfl)
                      clear hm
                      go_wp2_with fail
                      go_ret
                      exact ⟨ret_int (by rw [hC.out]), hb6⟩
                    | false =>
                      rw [hm] at hlook
                      obtain ⟨ob, hput, hS3⟩ := hS2.put (T[k].name, T[k].parent) hko hm
                      unfold keyV at hput
                      have HM := Lib.hid hm
                      clear hm
                      go_wp2_with fail
                      go_roundg (gk - 1)
                      case measure => omega
                      case rel =>
                        exact ⟨k + 1, _, by go_num, by omega, by omega, by show _ = _; rw [hTw.out, hstep.out, HM.out]; simp, by omega, hS3, below_setBlock hb6 hms, holds_setBlock hB6 (by have := hB4.lt; omega)⟩
                  · have hk0' : k = 0 := by omega
                    have hSn := hS0 hk0'
                    subst hSn
                    have hk0b : decide (0 < k) = false := by simpa using hk0
                    obtain ⟨ob, hput, hS3⟩ := hS2.put (T[k].name, T[k].parent) hko rfl
                    unfold keyV at hput
                    have HK := Lib.hid hk0'
                    clear hlook hk0'
                    go_wp2_with fail
                    go_roundg (gk - 1)
                    case measure => omega
                    case rel =>
                      exact ⟨k + 1, _, by go_num, by omega, by omega, by show _ = _; rw [hTw.out, hstep.out, hk0b]; simp, by omega, hS3, below_setBlock hb6 hms, holds_setBlock hB6 (by have := hB4.lt; omega)⟩
                · have hTwF := Lib.hid (show twinT T = false from by rw [hTw.out, List.drop_eq_nil_of_le (by omega)]; rfl)
                  have bx5 := hB.cell 0
                  have blt5 := hB.lt
                  clear hTw hS
                  go_wp2_with fail
                  go_loopg [70] (T.length) (fun f x wx => ∃ j : Nat, x = .int .i64 j ∧ j ≤ T.length ∧ T.length ≤ j + f ∧ Hid (∀ i, i < j → depT T i ≤ 8) ∧ Below w.heap.size w wx ∧ Holds wx w.heap.size #[.slice a T.length cap] 25)
                  case atStart => exact ⟨0, rfl, by omega, by omega, fun i h => absurd h (by omega), hb, hB⟩
                  case round =>
                    obtain ⟨j, rfl, hj, hf2, hD, hb7, hB7⟩ := hrel
                    have hbs7 := hb7.size
                    have bx7 := hB7.cell 0
                    have blt7 := hB7.lt
                    by_cases hjl : j < T.length
                    · have hdp := fun wx hx => tree_depth R (.slice a T.length cap) T j wx hx HNM.out (by omega) (by omega) (by omega)
                      have hde := Lib.hid (show depT T j = depF T T.length j from rfl)
                      generalize depF T T.length (j : Int) = d at hdp hde
                      have HDP := Lib.hid hdp; clear hdp
                      by_cases hd8 : 8 < d
                      · have hC := Lib.hid (show checkT T = 2 from by
                          have : deepT T = true := by
                            unfold deepT
                            rw [List.any_eq_true]
                            exact ⟨j, List.mem_range.2 hjl, by rw [hde.out]; simpa using hd8⟩
                          unfold checkT; rw [HLM.out, HNM.out, HWK.out, hTwF.out, this]; rfl)
                        go_wp2_with fail
                        refine (HDP.out _ (by exact HT.out.new hb7)).mono ?_
                        rintro e w' ⟨rfl, hb'⟩
                        go_wp2_with fail
                        go_ret
                        exact ⟨ret_int (by rw [hC.out]), hb7.trans (hb'.mono hbs7)⟩
                      · have hd8' : d ≤ 8 := by omega
                        go_wp2_with fail
                        refine (HDP.out _ (by exact HT.out.new hb7)).mono ?_
                        rintro e w' ⟨rfl, hb'⟩
                        have hB8 := hB7.keeps (Keeps.of_fresh hb' (fun _ => False)) (fun e => e)
                        go_wp2_with fail
                        go_roundg (gk - 1)
                        case measure => omega
                        case rel =>
                          refine ⟨j + 1, by go_num, by omega, by omega, ?_, hb7.trans (hb'.mono hbs7), hB8⟩
                          intro i hi
                          by_cases hij : i = j
                          · subst hij; rw [hde.out]; exact hd8'
                          · exact hD i (by omega)
                    · have hC := Lib.hid (show checkT T = 0 from by
                        have : deepT T = false := by
                          unfold deepT
                          rw [Bool.eq_false_iff, Ne, List.any_eq_true]
                          rintro ⟨i, hi, h8⟩
                          have := hD.out i (by have := List.mem_range.1 hi; omega)
                          simp at h8
                          omega
                        unfold checkT; rw [HLM.out, HNM.out, HWK.out, hTwF.out, this]; rfl)
                      go_wp2_with fail
                      go_ret
                      exact ⟨ret_int (by rw [hC.out]), hb7⟩
end Go.Proofs.YtofhcgbihonckaaGreatDoor

namespace Go.Proofs.YtofhcgbihonckaaGreatDoor
open Go.RowKit

theorem half_bits (n : Nat) (h : n ≤ 9223372036854775807) : IntKind.u64.wrap ((n : Int)) = n := by
  simp [IntKind.wrap, IntKind.signed, IntKind.bits]; omega

end Go.Proofs.YtofhcgbihonckaaGreatDoor

namespace Go.Proofs.YtofhcgbihonckaaGreatDoor
open Go.RowKit

theorem fit_props {T : List NodeT} (h : checkT T = 0) (k : Nat) (hk : k < T.length) : T[k].props.length ≤ 24 := by
  have := check_limits h
  unfold limitsT at this
  simp only [Bool.and_eq_true, List.all_eq_true] at this
  have := this.2 _ (List.getElem_mem hk)
  unfold fitB at this
  simp only [Bool.and_eq_true, decide_eq_true_eq] at this
  exact this.1
theorem has_lt {ps : List PropT} {x : ByteArray} (h : hasT ps x = true) : ∃ hl : lowT ps x < ps.length, eqS (ps[lowT ps x]).name x = true := by
  unfold hasT at h
  split at h
  · rename_i p hp
    obtain ⟨hl, e⟩ := List.getElem?_eq_some_iff.1 hp
    exact ⟨hl, by rw [e]; exact h⟩
  · cases h
def ValuePost (T : List NodeT) (node : Int) (x : ByteArray) (w : World) (e : Ending) (w' : World) : Prop :=
  e = .returned (.tuple #[.string (valueT T node x).1, .bool (valueT T node x).2]) ∧ Below w.heap.size w w'

end Go.Proofs.YtofhcgbihonckaaGreatDoor
