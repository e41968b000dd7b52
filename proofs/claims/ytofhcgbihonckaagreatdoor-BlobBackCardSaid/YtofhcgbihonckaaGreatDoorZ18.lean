/- The reader of blob in memory: its tree, its open nodes. | blob's reader: what its drawn regions hold on to. | blob: region 22 of property (printed by glbc.py). | Contracts of package blob: the reader's property. | blob: region 11 of node (printed by glbc.py). | Contracts of package blob: the reader's node. | blob: region 11 of step (printed by glbc.py). | Contracts of package blob: the reader's step. -/
import Derived.Test.YtofhcgbihonckaaGreatDoorZ15
import Derived.Test.YtofhcgbihonckaaGreatDoorZ17
import Derived.WalkSmall
import Derived.Test.YtofhcgbihonckaaGreatDoorZ2
import Derived.IntWalk

set_option linter.unusedVariables false
set_option linter.unusedSimpArgs false
set_option linter.unusedSectionVars false

namespace Go.Proofs.YtofhcgbihonckaaGreatDoor
open Go.RowKit Go.ChangeMaps

/-- A node's row of properties replaced by one that lies where it lay, or is new. -/
theorem TreeS.putS {w : World} {base g n cap : Nat} {T : List NodeT} (h : TreeS w base (.slice (some ⟨g, 0, none⟩) n cap) T) (k : Nat) (hk : k < T.length) :
    ∃ pv, w.cell? ⟨g, k * 3 + 2, none⟩ = some pv ∧ PropRow w base pv T[k].props ∧ pv.ownBlock ≠ some g ∧ g < w.heap.size ∧ (∀ (w' : World), Keeps (fun b => pv.ownBlock = some b) w w' → w'.cell? ⟨g, k * 3 + 2, none⟩ = some pv ∧ w'.frozen? ⟨g, k * 3 + 2, none⟩ = false) ∧
      ∀ (w' : World) (rv : Value) (ps : List PropT), PropRow w' base rv ps → Keeps (fun b => pv.ownBlock = some b) w w' → (rv.ownBlock = pv.ownBlock ∨ ∀ i, rv.ownBlock = some i → w.heap.size ≤ i) →
        TreeS (w'.setCell ⟨g, k * 3 + 2, none⟩ rv) base (.slice (some ⟨g, 0, none⟩) n cap) (T.set k ⟨T[k].parent, T[k].name, ps⟩) := by
  obtain ⟨H, pvs, h1, h2, h3, h4, h5, h6⟩ := h
  have hn : n = T.length := by
    rcases h2.2 with ⟨e, _⟩ | ⟨_, _, _, e, _⟩
    · cases e
    · cases e; rfl
  subst hn
  obtain ⟨a0, a1, a2⟩ := nodeCells_at T pvs k hk (by omega) h1
  have hp := h3 k hk (by omega)
  have hgl : g < w.heap.size := (h2.lt g rfl).2
  have hne : ∀ j (hj : j < pvs.length), pvs[j].ownBlock ≠ some g := fun j hj e => by
    obtain ⟨_, cur, hH⟩ := owned_holds (h3 j (by omega) hj).1 e
    exact owns_ne_holds h2 hH (by decide) rfl
  refine ⟨pvs[k], (h2.cellAt _ (by omega)).trans a2, hp, hne k (by omega), hgl, ?_, ?_⟩
  · intro w' kk
    obtain ⟨cur, hH⟩ : ∃ cur, Holds w g cur 52 := by obtain ⟨_, cur, hH⟩ := owned_holds h2 rfl; exact ⟨cur, hH⟩
    exact ⟨(kk.cell (p := ⟨g, k * 3 + 2, none⟩) hgl (hne k (by omega))).trans ((h2.cellAt _ (by omega)).trans a2), (hH.keeps kk (hne k (by omega))).free _⟩
  · intro w' rv ps hr kk hw
    have h2' := ownsRow_keeps h2 kk (fun b hb e => hne k (by omega) (e.trans hb.symm))
    have h3' : ∀ j (_ : j < T.length) (_ : j < pvs.length), j ≠ k → PropRow w' base pvs[j] T[j].props := fun j hj hj2 hjk =>
      ⟨ownsRow_keeps (h3 j hj hj2).1 kk (fun b hb e => h5 j k hj2 (by omega) hjk b hb e), (h3 j hj hj2).2⟩
    have hlt : ∀ j (hj : j < pvs.length), ∀ i, pvs[j].ownBlock = some i → i < w.heap.size := fun j hj i e => ((h3 j (by omega) hj).1.lt i e).2
    have hrl : ∀ i, rv.ownBlock = some i → i < w'.heap.size := fun i e => (hr.1.lt i e).2
    obtain ⟨s1, s2⟩ := h2'.stored (k * 3 + 2) rv
    refine ⟨(w'.setCell ⟨g, k * 3 + 2, none⟩ rv).heap.size, pvs.set k rv, by simpa using h1, ?_, ?_, ?_, ?_, ?_⟩
    · rw [nodeCells_set T pvs k hk ps rv h1, List.length_set]; exact s1
    · intro j hj hj2
      by_cases e : j = k
      · subst e
        simp only [List.getElem_set_self]
        exact hr.apart h2' s2 (by decide)
      · rw [List.getElem_set_ne (fun x => e x.symm), List.getElem_set_ne (fun x => e x.symm)]
        exact (h3' j (by simpa using hj) (by simpa using hj2) e).apart h2' s2 (by decide)
    · intro m hm
      rcases List.mem_or_eq_of_mem_set hm with hm | rfl
      · exact h4 m hm
      · exact h4 T[k] (List.getElem_mem hk)
    · have key : ∀ j (hj : j < pvs.length), j ≠ k → ∀ i, rv.ownBlock = some i → pvs[j].ownBlock ≠ some i := fun j hj hjk i e1 e2 => by
        rcases hw with hw | hw
        · exact h5 j k hj (by omega) hjk i e2 (hw ▸ e1)
        · have := hw i e1; have := hlt j hj i e2; omega
      intro i j hi hj hij a ei ej
      rw [List.length_set] at hi hj
      by_cases c1 : k = i
      · subst c1
        rw [List.getElem_set_self] at ei
        rw [List.getElem_set_ne hij] at ej
        exact key j hj (fun x => hij x.symm) a ei ej
      · rw [List.getElem_set_ne c1] at ei
        by_cases c2 : k = j
        · subst c2
          rw [List.getElem_set_self] at ej
          exact key i hi hij a ej ei
        · rw [List.getElem_set_ne c2] at ej
          exact h5 i j hi hj hij a ei ej
    · intro q hq i e
      have hsz : (w'.setCell ⟨g, k * 3 + 2, none⟩ rv).heap.size = w'.heap.size := by simp
      rw [hsz]
      rcases List.mem_or_eq_of_mem_set hq with hq | rfl
      · obtain ⟨j, hj, rfl⟩ := List.getElem_of_mem hq
        have := hlt j hj i e; have := kk.size; omega
      · exact hrl i e
def RdAt (w : World) (rb base : Nat) (bv sv : Value) (st : RdS) (nv ov cv : Value) : Prop :=
  Holds w rb (rdC bv sv st.at_ nv ov cv 0 0) 75 ∧ TreeS w base nv st.nodes ∧
    w.ownsRow base 3 1 ov st.opn.length (st.opn.reverse.map fun (n : Nat) => Value.int .i64 (n : Int)) ∧ w.ownsRow base 4 1 cv st.child.length (st.child.reverse.map fun (c : Bool) => Value.bool c)
theorem RdAt.turn {w w' : World} {rb base : Nat} {bv sv : Value} {st : RdS} {nv ov cv : Value} (h : RdAt w rb base bv sv st nv ov cv) (k : Keeps (· = rb) w w') (a : Nat) (hH : Holds w' rb (rdC bv sv a nv ov cv 0 0) 75) :
    RdAt w' rb base bv sv { st with at_ := a } nv ov cv := by
  obtain ⟨h1, h2, h3, h4⟩ := h
  exact ⟨hH, h2.keeps k (fun g hg => .inr ⟨_, _, (show g = rb from hg) ▸ h1, by decide, by decide⟩),
    ownsRow_keeps h3 k (fun g hg e => owns_ne_holds h3 h1 (by decide) ((show g = rb from e) ▸ hg)),
    ownsRow_keeps h4 k (fun g hg e => owns_ne_holds h4 h1 (by decide) ((show g = rb from e) ▸ hg))⟩
/-- What a step of the reader leaves. -/
def StPost (rb base : Nat) (bv sv : Value) (R : Re RdS) (w : World) (e : Ending) (w' : World) : Prop :=
  Keeps (fun g => base ≤ g) w w' ∧ match R with
  | .ok st => e = .returned (.bool true) ∧ ∃ nv ov cv, RdAt w' rb base bv sv st nv ov cv
  | .error (p, er) => e = .returned (.bool false) ∧ ∃ (a : Nat) (nv ov cv : Value), Holds w' rb (rdC bv sv a nv ov cv p er) 75
/-- The bytes that the reader reads. -/
structure RdIn (w : World) (rb base : Nat) (bv sv : Value) (b s : List UInt8) : Prop where
  bat : BytesAt w bv b
  sat : BytesAt w sv s
  bel : ∀ g, bv.ownBlock = some g → g < base
  sel : ∀ g, sv.ownBlock = some g → g < base
  rb : base ≤ rb
  pos : 0 < base
  bl : b.length ≤ 100000
  sl : s.length ≤ 100000
  room : ∀ a n c, bv = .slice a n c → b.length + s.length ≤ c
  b0 : 0 < b.length
  lay : Lay0 w
theorem RdIn.turn {w w' : World} {rb base : Nat} {bv sv : Value} {b s : List UInt8} (h : RdIn w rb base bv sv b s) (k : Keeps (fun g => base ≤ g) w w') : RdIn w' rb base bv sv b s where
  bat := h.bat.keeps k (fun g hg e => by have := h.bel g hg; omega)
  sat := h.sat.keeps k (fun g hg e => by have := h.sel g hg; omega)
  bel := h.bel
  sel := h.sel
  rb := h.rb
  pos := h.pos
  bl := h.bl
  sl := h.sl
  room := h.room
  b0 := h.b0
  lay := h.lay.keeps k (fun e => by have := h.pos; have e' : base ≤ 0 := e; have : 0 = 0 := rfl; omega)
theorem RdIn.one {w w' : World} {rb base : Nat} {bv sv : Value} {b s : List UInt8} (h : RdIn w rb base bv sv b s) (k : Keeps (· = rb) w w') : RdIn w' rb base bv sv b s :=
  h.turn (k.mono fun g _ e => by have := h.rb; have e' : g = rb := e; omega)
end Go.Proofs.YtofhcgbihonckaaGreatDoor

namespace Go.Proofs.YtofhcgbihonckaaGreatDoor
open Go.RowKit Go.ChangeMaps

theorem RdIn.turn2 {w wx wy : World} {rb base : Nat} {bv sv : Value} {b s : List UInt8} (h : RdIn w rb base bv sv b s) (k : Keeps (· = rb) wx wy) : Keeps (fun g => base ≤ g) wx wy :=
  k.mono fun g _ e => by have := h.rb; have e' : g = rb := e; omega
theorem numB_le (b : List UInt8) (i : Nat) : numB b i ≤ 4294967295 := by
  unfold numB
  have h : ∀ j, (b.getD j 0).toNat ≤ 255 := fun j => by have := (b.getD j 0).toNat_lt; omega
  have := h i; have := h (i + 1); have := h (i + 2); have := h (i + 3)
  omega
theorem holds_type {w : World} {b : Nat} {cs ds : Array Value} {t u : TypeId} (h : Holds w b cs t) (k : Holds w b ds u) : t = u := by
  have e := (show w.heap[b]? = some (.cells cs t (0, 0)) from h).symm.trans (show w.heap[b]? = some (.cells ds u (0, 0)) from k)
  cases e; rfl
/-- A node's properties, the reader, its bytes. -/
def PrC (rb gn kk g ob bc at_ : Nat) (sv nv ov cv pv : Value) (b : List UInt8) (w : World) : Prop :=
  w.cell? ⟨gn, kk + 2, none⟩ = some pv ∧ w.frozen? ⟨gn, kk + 2, none⟩ = false ∧ Holds w rb (rdC (.slice (some ⟨g, ob, none⟩) b.length bc) sv at_ nv ov cv 0 0) 75 ∧
    ∀ (i : Nat) (h : i < b.length), w.cell? ⟨g, ob + i, none⟩ = some (.int .u8 b[i].toNat)
theorem PrC.keeps {S : Nat → Prop} {rb gn kk g ob bc at_ : Nat} {sv nv ov cv pv : Value} {b : List UInt8} {w w' : World} (h : PrC rb gn kk g ob bc at_ sv nv ov cv pv b w) (k : Keeps S w w') (h1 : ¬ S gn) (h2 : ¬ S rb) (h3 : ¬ S g) :
    PrC rb gn kk g ob bc at_ sv nv ov cv pv b w' := by
  have hg := World.block_lt_of_cell? w _ h.1
  exact ⟨(k.cell (p := ⟨gn, kk + 2, none⟩) hg h1).trans h.1, (k.frozen (p := ⟨gn, kk + 2, none⟩) hg h1).trans h.2.1, h.2.2.1.keeps k h2,
    fun i hi => (k.cell (p := ⟨g, ob + i, none⟩) (World.block_lt_of_cell? w _ (h.2.2.2 i hi)) h3).trans (h.2.2.2 i hi)⟩
theorem prop_src {w : World} {B : Nat} {nm vl : ByteArray} (h : Holds w B #[.string nm, .string vl] 54) : Src Tryz.prog 2 50 (.slice (some ⟨B, 0, none⟩) 1 1) 1 [.string nm, .string vl] w :=
  Src.ofSlice w Tryz.underlying50 ⟨B, 0, none⟩ 1 1 _ rfl (fun j u hu => World.news_of_block (cs := #[.string nm, .string vl]) (t := 54) (fr := (0, 0)) h j u hu) (fun u hu => by simp at hu; rcases hu with rfl | rfl <;> rfl)
theorem int_src {w : World} {B : Nat} {n : Int} (h : Holds w B #[.int .i64 n] 3) : Src Tryz.prog 1 22 (.slice (some ⟨B, 0, none⟩) 1 1) 1 [.int .i64 n] w :=
  Src.ofSlice w Tryz.underlying22 ⟨B, 0, none⟩ 1 1 _ rfl (fun j u hu => World.news_of_block (cs := #[.int .i64 n]) (t := 3) (fr := (0, 0)) h j u hu) (fun u hu => by simp at hu; subst hu; rfl)
theorem bool_src {w : World} {B : Nat} {c : Bool} (h : Holds w B #[.bool c] 4) : Src Tryz.prog 1 73 (.slice (some ⟨B, 0, none⟩) 1 1) 1 [.bool c] w :=
  Src.ofSlice w Tryz.underlying73 ⟨B, 0, none⟩ 1 1 _ rfl (fun j u hu => World.news_of_block (cs := #[.bool c]) (t := 4) (fr := (0, 0)) h j u hu) (fun u hu => by simp at hu; subst hu; rfl)
theorem node_src {w : World} {B : Nat} {n : Int} {nm : ByteArray} (h : Holds w B #[.int .i64 n, .string nm, .slice none 0 0] 52) : Src Tryz.prog 3 23 (.slice (some ⟨B, 0, none⟩) 1 1) 1 [.int .i64 n, .string nm, .slice none 0 0] w :=
  Src.ofSlice w Tryz.underlying23 ⟨B, 0, none⟩ 1 1 _ rfl (fun j u hu => World.news_of_block (cs := #[.int .i64 n, .string nm, .slice none 0 0]) (t := 52) (fr := (0, 0)) h j u hu) (fun u hu => by simp at hu; rcases hu with rfl | rfl | rfl <;> rfl)
theorem infoNode8 : (Tryz.prog.info? 52).map (fun i => (i.zero, i.size, i.bytes)) = some (some (.agg #[.int .i64 0, .string ⟨#[]⟩, .slice none 0 0]), 3, 48) := by kernel_rfl
theorem infoBool1 : (Tryz.prog.info? 4).map (fun i => (i.zero, i.size, i.bytes)) = some (some (.bool false), 1, 1) := by kernel_rfl
theorem addProp_set (T : List NodeT) (o : Nat) (h : o < T.length) (p : PropT) : addProp T o p = T.set o ⟨T[o].parent, T[o].name, T[o].props ++ [p]⟩ := by
  unfold addProp
  apply List.ext_getElem (by simp)
  intro i h1 h2
  rw [List.getElem_modify, List.getElem_set]
  by_cases e : o = i
  · subst e; simp
  · simp [e]
theorem RdAt.propped {w w3 : World} {rb base gn nc : Nat} {bv sv ov cv pv rv : Value} {st : RdS} {o : Nat} (h : RdAt w rb base bv sv st (.slice (some ⟨gn, 0, none⟩) st.nodes.length nc) ov cv) (ho : o < st.nodes.length) (hpv : PropRow w base pv st.nodes[o].props)
    (hput : ∀ (w' : World) (rv : Value) (ps : List PropT), PropRow w' base rv ps → Keeps (fun b => pv.ownBlock = some b) w w' → (rv.ownBlock = pv.ownBlock ∨ ∀ i, rv.ownBlock = some i → w.heap.size ≤ i) → TreeS (w'.setCell ⟨gn, o * 3 + 2, none⟩ rv) base (.slice (some ⟨gn, 0, none⟩) st.nodes.length nc) (st.nodes.set o ⟨st.nodes[o].parent, st.nodes[o].name, ps⟩))
    (p : PropT) (hp : PropOk p) (hown : w3.ownsRow base 54 2 rv (st.nodes[o].props.length + 1) (propCells st.nodes[o].props ++ [.string p.name, .string p.value])) (hG : Grew w w3 pv rv) :
    RdAt (w3.setCell ⟨gn, o * 3 + 2, none⟩ rv) rb base bv sv { st with nodes := addProp st.nodes o p } (.slice (some ⟨gn, 0, none⟩) st.nodes.length nc) ov cv ∧ Keeps (fun g => base ≤ g) w (w3.setCell ⟨gn, o * 3 + 2, none⟩ rv) := by
  obtain ⟨h1, h2, h3, h4⟩ := h
  obtain ⟨hgb, cur, hgn⟩ : base ≤ gn ∧ ∃ cur, Holds w gn cur 52 := by
    obtain ⟨_, pvs, q1, q2, _⟩ := h2; exact owned_holds q2 rfl
  have hpb : ∀ x, pv.ownBlock = some x → base ≤ x ∧ ∃ cur, Holds w x cur 54 := fun x hx => owned_holds hpv.1 hx
  have hgn3 : Holds w3 gn cur 52 := hgn.keeps hG.1 (fun e => by obtain ⟨_, c2, hc2⟩ := hpb gn e; exact absurd (holds_type hgn hc2) (by decide))
  have hrb : gn ≠ rb := by rintro rfl; exact absurd (holds_type hgn h1) (by decide)
  have ha1 : Holds w3 rb (rdC bv sv st.at_ (.slice (some ⟨gn, 0, none⟩) st.nodes.length nc) ov cv 0 0) 75 := h1.keeps hG.1 (fun e => by obtain ⟨_, c2, hc2⟩ := hpb rb e; exact absurd (holds_type h1 hc2) (by decide))
  obtain ⟨gr, rc, hrv, _, _⟩ := hown.form (by omega)
  have hwhere : rv.ownBlock = pv.ownBlock ∨ ∀ i, rv.ownBlock = some i → w.heap.size ≤ i := by
    have hrg : rv.ownBlock = some gr := by rw [hrv]; rfl
    rcases hG.2 gr hrg with e | e
    · exact .inl (hrg.trans e.symm)
    · exact .inr fun i hi => by rw [hrg] at hi; cases hi; exact e
  have hPR : PropRow w3 base rv (st.nodes[o].props ++ [p]) := ⟨by
    rw [List.length_append, propCells_app]
    exact hown, fun q hq => by
    rcases List.mem_append.1 hq with hq | hq
    · exact hpv.2 q hq
    · simp at hq; subst hq; exact hp⟩
  have ht := hput w3 rv _ hPR hG.1 hwhere
  refine ⟨⟨ha1.other ⟨gn, o * 3 + 2, none⟩ rv (fun e => hrb e.symm), ?_, ?_, ?_⟩, ?_⟩
  · show TreeS _ _ _ (addProp st.nodes o p)
    rw [addProp_set st.nodes o ho p]; exact ht
  · exact row_set (ownsRow_keeps h3 hG.1 (fun x hx e => by obtain ⟨_, c2, hc2⟩ := hpb x e; exact owns_ne_holds h3 hc2 (by decide) hx)) hgn3 (by decide) _ _
  · exact row_set (ownsRow_keeps h4 hG.1 (fun x hx e => by obtain ⟨_, c2, hc2⟩ := hpb x e; exact owns_ne_holds h4 hc2 (by decide) hx)) hgn3 (by decide) _ _
  · exact (hG.1.mono (fun x _ e => (hpb x e).1)).setCell (p := ⟨gn, o * 3 + 2, none⟩) (.inr hgb) _
/-- A node opened: the rows of open and child are one longer. -/
theorem RdAt.opened {W w3 : World} {rb base nn ko at_ : Nat} {bv sv nv ov cv ov2 cv2 : Value} {T : List NodeT} {op : List Nat} {ch : List Bool} {xo xc : List Value}
    (hT : TreeS W base nv T) (hov : W.ownsRow base 3 1 ov ko xo) (hcv : W.ownsRow base 4 1 cv ko xc) (hko : op.length = ko) (hkc : ch.length = ko)
    (hxo : xo = op.reverse.map fun (n : Nat) => Value.int .i64 (n : Int)) (hxc : xc = ch.reverse.map fun (c : Bool) => Value.bool c)
    (hr : w3.ownsRow base 3 1 ov2 (ko + 1) (xo ++ [.int .i64 (nn : Int)]) ∧ w3.ownsRow base 4 1 cv2 (ko + 1) (xc ++ [.bool false])) (hk : Keeps (fun g => ov.ownBlock = some g ∨ cv.ownBlock = some g) W w3)
    (hH : Holds w3 rb (rdC bv sv at_ nv ov cv 0 0) 75) (hrb : base ≤ rb) :
    RdAt ((w3.setCell ⟨rb, 4, none⟩ ov2).setCell ⟨rb, 5, none⟩ cv2) rb base bv sv ⟨at_, T, nn :: op, false :: ch⟩ nv ov2 cv2 ∧ Keeps (fun g => base ≤ g) W ((w3.setCell ⟨rb, 4, none⟩ ov2).setCell ⟨rb, 5, none⟩ cv2) := by
  have hH4 := hH.set 4 ov2
  have hT3 : TreeS w3 base nv T := hT.keeps hk (fun g hg => by
    rcases hg with hg | hg
    · obtain ⟨_, cu, hcu⟩ := owned_holds hov hg; exact .inr ⟨cu, _, hcu, by decide, by decide⟩
    · obtain ⟨_, cu, hcu⟩ := owned_holds hcv hg; exact .inr ⟨cu, _, hcu, by decide, by decide⟩)
  refine ⟨⟨hH4.set 5 cv2, (hT3.set hH (by decide) (by decide) 4 ov2).set hH4 (by decide) (by decide) 5 cv2, ?_, ?_⟩, ?_⟩
  · have := row_set (row_set hr.1 hH (by decide) 4 ov2) hH4 (by decide) 5 cv2
    subst hxo
    simpa [hko] using this
  · have := row_set (row_set hr.2 hH (by decide) 4 ov2) hH4 (by decide) 5 cv2
    subst hxc
    simpa [hkc] using this
  · exact ((hk.mono (S := fun g => base ≤ g) (fun g _ e => by
      rcases e with e | e
      · exact (hov.lt g e).1
      · exact (hcv.lt g e).1)).setCell (p := ⟨rb, 4, none⟩) (.inr hrb) _).setCell (p := ⟨rb, 5, none⟩) (.inr hrb) _
theorem RdAt.new {w w' : World} {rb base : Nat} {bv sv nv ov cv : Value} {st : RdS} (h : RdAt w rb base bv sv st nv ov cv) (k : Below w.heap.size w w') : RdAt w' rb base bv sv st nv ov cv :=
  ⟨h.1.keeps (Keeps.of_fresh k (fun _ => False)) (fun e => e), h.2.1.new k, row_new h.2.2.1 k, row_new h.2.2.2 k⟩
theorem Sep.up {H K : Nat} {pvs : List Value} (h : Sep H pvs) (k : H ≤ K) : Sep K pvs := ⟨h.1, fun pv hp g hg => Nat.lt_of_lt_of_le (h.2 pv hp g hg) k⟩
/-- A node more in the reader's tree. -/
theorem RdAt.grown {w w3 : World} {rb base : Nat} {bv sv nv ov cv nv2 : Value} {st : RdS} {n : NodeT} (h : RdAt w rb base bv sv st nv ov cv) (hn : NodeOk n) (hp : n.props = [])
    (pvs : List Value) (h1 : pvs.length = st.nodes.length) (h2 : w.ownsRow base 52 3 nv st.nodes.length (nodeCells st.nodes pvs)) (h3 : ∀ k (_ : k < st.nodes.length) (_ : k < pvs.length), PropRow w base pvs[k] st.nodes[k].props) (h4 : ∀ n ∈ st.nodes, NodeOk n) (h5 : Sep w.heap.size pvs)
    (hown : w3.ownsRow base 52 3 nv2 (st.nodes.length + 1) (nodeCells st.nodes pvs ++ [.int .i64 n.parent, .string n.name, .slice none 0 0])) (hg : w.grownBy w3 nv.ownBlock) (hrb : base ≤ rb) (hbw : base ≤ w.heap.size) :
    RdAt (w3.setCell ⟨rb, 3, none⟩ nv2) rb base bv sv { st with nodes := st.nodes ++ [n] } nv2 ov cv ∧ Keeps (fun g => base ≤ g) w (w3.setCell ⟨rb, 3, none⟩ nv2) := by
  obtain ⟨a1, a2, a3, a4⟩ := h
  have hk : Keeps (fun g => nv.ownBlock = some g) w w3 := Keeps.of_grown hg (fun _ e => e)
  have hnr : ∀ {t cs g}, Holds w g cs t → t ≠ 52 → nv.ownBlock ≠ some g := fun hH ht => owns_ne_holds h2 hH ht
  have hH3 := a1.keeps hk (hnr a1 (by decide))
  have hT := TreeSep.more (pv := .slice none 0 0) h1 h2 h3 h4 h5 hbw (by rw [hp]; exact PropRow.nil _ _) hn hown hg
  refine ⟨⟨hH3.set 3 nv2, hT.set hH3 (by decide) (by decide) 3 nv2, ?_, ?_⟩, ?_⟩
  · exact row_set (ownsRow_keeps a3 hk (fun g hg2 e => by obtain ⟨_, cu, hcu⟩ := owned_holds a3 hg2; exact hnr hcu (by decide) e)) hH3 (by decide) 3 nv2
  · exact row_set (ownsRow_keeps a4 hk (fun g hg2 e => by obtain ⟨_, cu, hcu⟩ := owned_holds a4 hg2; exact hnr hcu (by decide) e)) hH3 (by decide) 3 nv2
  · exact (hk.mono (S := fun g => base ≤ g) (fun g _ e => (h2.lt g e).1)).setCell (p := ⟨rb, 3, none⟩) (.inr hrb) _
end Go.Proofs.YtofhcgbihonckaaGreatDoor

namespace Go.Proofs.YtofhcgbihonckaaGreatDoor
open Go.RowKit
open Go.ChangeMaps
noncomputable def pqOps : Array Oper := (regOps (Tryz.f74.body.getD .skip) 22).getD #[]
theorem pqR : inRow2 .any pqOps = true := by kernel_rfl
theorem pqRa : apartB pqOps = true := by kernel_rfl
theorem pqRn : pqOps.size = 22 := by kernel_rfl
def PqF (_ rb gn kk g ob bc _ i0 m1 _ : Nat) (_ _ _ _ pv : Value) (nm vl : ByteArray) (b : List UInt8) (_ : List Value) (nB : Nat) (rv : Value) (j : Nat) : Value → World → Prop := match j with
  | 0 => fun u _ => u = .pointer (some ⟨gn, kk, none⟩)
  | 1 => fun u _ => u = .pointer (some ⟨gn, kk, none⟩)
  | 2 => fun u _ => u = .pointer (some ⟨gn, kk, none⟩)
  | 3 => fun u _ => u = .pointer (some ⟨gn, kk + 2, none⟩)
  | 4 => fun u _ => u = pv
  | 5 => fun u _ => u = .string nm
  | 6 => fun u _ => u = .pointer (some ⟨rb, 0, none⟩)
  | 7 => fun u _ => u = .pointer (some ⟨rb, 0, none⟩)
  | 8 => fun u _ => u = .pointer (some ⟨rb, 0, none⟩)
  | 9 => fun u _ => u = .slice (some ⟨g, ob, none⟩) b.length bc
  | 10 => fun u _ => u = .int .i64 (i0 : Int)
  | 11 => fun u _ => u = .int .i64 (i0 : Int)
  | 12 => fun u _ => u = .int .i64 (m1 : Int)
  | 13 => fun u _ => u = .int .i64 ((i0 : Int) + (m1 : Int))
  | 14 => fun u _ => u = .slice (some ⟨g, ob + i0, none⟩) m1 (bc - i0)
  | 15 => fun u _ => u = .string vl
  | 16 => fun u _ => u = .agg #[.string nm, .string vl]
  | 17 => fun u _ => u = .slice (some ⟨nB, 0, none⟩) 1 1
  | 18 => fun u _ => u = rv
  | 19 => fun u _ => u = .pointer (some ⟨gn, kk, none⟩)
  | 20 => fun u _ => u = .pointer (some ⟨gn, kk + 2, none⟩)
  | _ => fun _ _ => True
/-- What holds until the chain's end. -/
def PqC (_ rb gn kk g ob bc at_ _ _ _ : Nat) (sv nv ov cv pv : Value) (_ _ : ByteArray) (b : List UInt8) (_ : List Value) (_ w : World) : Prop := PrC rb gn kk g ob bc at_ sv nv ov cv pv b w
/-- Where the chain stands. -/
def PqE (base _ gn kk _ _ _ _ _ _ np : Nat) (_ _ _ _ pv : Value) (nm vl : ByteArray) (_ : List UInt8) (xs : List Value) (nB : Nat) (rv : Value) (W w : World) (l : Array Bool) : Prop :=
  if l.getD 17 false = false then (Keeps (fun _ => False) W w) else
  if l.getD 18 false = false then (Keeps (fun _ => False) W w ∧ Holds w nB #[.string nm, .string vl] 54 ∧ W.heap.size ≤ nB) else
  if l.getD 21 false = false then (w.ownsRow base 54 2 rv (np + 1) (xs ++ [.string nm, .string vl]) ∧ Grew W w pv rv) else
  ∃ w3, w = w3.setCell ⟨gn, kk + 2, none⟩ rv ∧ w3.ownsRow base 54 2 rv (np + 1) (xs ++ [.string nm, .string vl]) ∧ Grew W w3 pv rv
section
variable {base rb gn kk g ob bc at_ i0 m1 np : Nat} {sv nv ov cv pv : Value} {nm vl : ByteArray} {b : List UInt8} {xs : List Value} {nB : Nat} {rv : Value} {W w : World} {l : Array Bool}
theorem PqE.other {j : Nat} (h : PqE base rb gn kk g ob bc at_ i0 m1 np sv nv ov cv pv nm vl b xs nB rv W w l) (n0 : j ≠ 17) (n1 : j ≠ 18) (n2 : j ≠ 21) : PqE base rb gn kk g ob bc at_ i0 m1 np sv nv ov cv pv nm vl b xs nB rv W w (l.setIfInBounds j true) := by
  unfold PqE at h ⊢
  rw [set_other n0, set_other n1, set_other n2]
  exact h
theorem PqE.at0 (h : PqE base rb gn kk g ob bc at_ i0 m1 np sv nv ov cv pv nm vl b xs nB rv W w l)  (no : l.getD 17 false = false) : Keeps (fun _ => False) W w := by
  unfold PqE at h
  rw [no, if_pos rfl] at h
  exact h
theorem PqE.to0  (hs : 17 < l.size) (no : l.getD 18 false = false) (h : Keeps (fun _ => False) W w ∧ Holds w nB #[.string nm, .string vl] 54 ∧ W.heap.size ≤ nB) : PqE base rb gn kk g ob bc at_ i0 m1 np sv nv ov cv pv nm vl b xs nB rv W w (l.setIfInBounds 17 true) := by
  unfold PqE
  rw [set_here hs, if_neg (by simp)]
  rw [set_other (show 17 ≠ 18 by decide), no, if_pos rfl]
  exact h
theorem PqE.at1 (h : PqE base rb gn kk g ob bc at_ i0 m1 np sv nv ov cv pv nm vl b xs nB rv W w l) (y0 : l.getD 17 false = true) (no : l.getD 18 false = false) : Keeps (fun _ => False) W w ∧ Holds w nB #[.string nm, .string vl] 54 ∧ W.heap.size ≤ nB := by
  unfold PqE at h
  rw [y0, if_neg (by simp)] at h
  rw [no, if_pos rfl] at h
  exact h
theorem PqE.to1 (y0 : l.getD 17 false = true) (hs : 18 < l.size) (no : l.getD 21 false = false) (h : w.ownsRow base 54 2 rv (np + 1) (xs ++ [.string nm, .string vl]) ∧ Grew W w pv rv) : PqE base rb gn kk g ob bc at_ i0 m1 np sv nv ov cv pv nm vl b xs nB rv W w (l.setIfInBounds 18 true) := by
  unfold PqE
  rw [set_other (show 18 ≠ 17 by decide), y0, if_neg (by simp)]
  rw [set_here hs, if_neg (by simp)]
  rw [set_other (show 18 ≠ 21 by decide), no, if_pos rfl]
  exact h
theorem PqE.at2 (h : PqE base rb gn kk g ob bc at_ i0 m1 np sv nv ov cv pv nm vl b xs nB rv W w l) (y0 : l.getD 17 false = true) (y1 : l.getD 18 false = true) (no : l.getD 21 false = false) : w.ownsRow base 54 2 rv (np + 1) (xs ++ [.string nm, .string vl]) ∧ Grew W w pv rv := by
  unfold PqE at h
  rw [y0, if_neg (by simp)] at h
  rw [y1, if_neg (by simp)] at h
  rw [no, if_pos rfl] at h
  exact h
theorem PqE.to2 (y0 : l.getD 17 false = true) (y1 : l.getD 18 false = true) (hs : 21 < l.size) (h : ∃ w3, w = w3.setCell ⟨gn, kk + 2, none⟩ rv ∧ w3.ownsRow base 54 2 rv (np + 1) (xs ++ [.string nm, .string vl]) ∧ Grew W w3 pv rv) : PqE base rb gn kk g ob bc at_ i0 m1 np sv nv ov cv pv nm vl b xs nB rv W w (l.setIfInBounds 21 true) := by
  unfold PqE
  rw [set_other (show 21 ≠ 17 by decide), y0, if_neg (by simp)]
  rw [set_other (show 21 ≠ 18 by decide), y1, if_neg (by simp)]
  rw [set_here hs, if_neg (by simp)]
  exact h
theorem PqF.ghost0 {nB' : Nat} {j : Nat} {u : Value} (h : PqF base rb gn kk g ob bc at_ i0 m1 np sv nv ov cv pv nm vl b xs nB rv j u w) (n0 : j ≠ 17) : PqF base rb gn kk g ob bc at_ i0 m1 np sv nv ov cv pv nm vl b xs nB' rv j u w := by
  unfold PqF at *
  split at h
  all_goals first
    | exact h
    | exact absurd rfl n0
theorem PqF.ghost1 {rv' : Value} {j : Nat} {u : Value} (h : PqF base rb gn kk g ob bc at_ i0 m1 np sv nv ov cv pv nm vl b xs nB rv j u w) (n0 : j ≠ 18) : PqF base rb gn kk g ob bc at_ i0 m1 np sv nv ov cv pv nm vl b xs nB rv' j u w := by
  unfold PqF at *
  split at h
  all_goals first
    | exact h
    | exact absurd rfl n0
theorem PqF.world {j : Nat} {u : Value} {w' : World} (h : PqF base rb gn kk g ob bc at_ i0 m1 np sv nv ov cv pv nm vl b xs nB rv j u w) : PqF base rb gn kk g ob bc at_ i0 m1 np sv nv ov cv pv nm vl b xs nB rv j u w' := by
  unfold PqF at *
  split at h
  all_goals exact h
end

set_option maxHeartbeats 8000000 in
set_option maxRecDepth 100000 in
theorem pq_region22 {Q : Exit → Act → World → Prop} (base rb gn kk g ob bc at_ i0 m1 np : Nat) (sv nv ov cv pv : Value) (nm vl : ByteArray) (b : List UInt8) (xs : List Value) (W w : World) (A : Act) (hsz : A.tmps.size = 127) (hpv : W.ownsRow base 54 2 pv np xs) (hnp : np ≤ 1000000) (hwi : i0 + m1 ≤ b.length) (hbc : b.length ≤ bc) (hcap : i0 < bc) (hbl : b.length ≤ 1000000) (hvl : Hid (vl = ⟨((b.drop i0).take m1).toArray⟩)) (hbase : base ≤ W.heap.size) (hpg : pv.ownBlock ≠ some gn) (hpr : pv.ownBlock ≠ some rb) (hpb : pv.ownBlock ≠ some g)
    (a11 : A.tmps.getD 11 undef = .pointer (some ⟨gn, kk, none⟩)) (a8 : A.tmps.getD 8 undef = .string nm) (a0 : A.tmps.getD 0 undef = .pointer (some ⟨rb, 0, none⟩)) (a9 : A.tmps.getD 9 undef = .int .i64 (i0 : Int)) (a4 : A.tmps.getD 4 undef = .int .i64 (m1 : Int)) (hC0 : PqC base rb gn kk g ob bc at_ i0 m1 np sv nv ov cv pv nm vl b xs W w) (hE0 : Keeps (fun _ => False) W w)
    (hQ : ∀ c w' (nB : Nat) (rv : Value), SameBut pqOps A c → (∃ w3, w' = w3.setCell ⟨gn, kk + 2, none⟩ rv ∧ w3.ownsRow base 54 2 rv (np + 1) (xs ++ [.string nm, .string vl]) ∧ Grew W w3 pv rv) → Q .normal c w') :
    wpAny Tryz.prog .any pqOps Q pqOps.size (Array.replicate pqOps.size false) A w := by
  refine wpAny_inv2 (fun l c wx => ∃ nB rv, RInvF pqOps A (PqF base rb gn kk g ob bc at_ i0 m1 np sv nv ov cv pv nm vl b xs nB rv) (fun _ => True) l c wx ∧ (l.getD 21 false = false → PqC base rb gn kk g ob bc at_ i0 m1 np sv nv ov cv pv nm vl b xs W wx) ∧ PqE base rb gn kk g ob bc at_ i0 m1 np sv nv ov cv pv nm vl b xs nB rv W wx l) pqR ?hend ?hstep _ _ _ _ (by simp) (by simp) ⟨0, .slice none 0 0, RInvF.start trivial, fun _ => hC0, by unfold PqE; rw [if_pos (rep_no _ _)]; exact hE0⟩
  case hend =>
    rintro l c wx ⟨nB, rv, hI, hC, hE⟩ hl
    have hh : ∀ k, k < 22 → l.getD k false = true := fun k hk => hl k (by rw [pqRn]; exact hk)
    have hEm : ∃ w3, wx = w3.setCell ⟨gn, kk + 2, none⟩ rv ∧ w3.ownsRow base 54 2 rv (np + 1) (xs ++ [.string nm, .string vl]) ∧ Grew W w3 pv rv := by
      unfold PqE at hE
      rw [hh 17 (by decide), if_neg (by simp)] at hE
      rw [hh 18 (by decide), if_neg (by simp)] at hE
      rw [hh 21 (by decide), if_neg (by simp)] at hE
      exact hE
    exact hQ c wx nB rv hI.1.1  hEm
  intro l c wx hIx i' op ho hl hall K' hK'
  obtain ⟨nB, rv, hI, hC, hE⟩ := hIx
  have hls : l.size = 22 := by rw [hI.1.2.2.1.1, pqRn]
  have hi' : i' < 22 := by rw [← pqRn]; exact (Array.getElem?_eq_some_iff.1 ho).1
  have ho2 := ho
  simp only [pqOps, regOps, Tryz.f74, Option.getD_some, reduceIte, Nat.reduceEqDiff] at ho
  have s11 := (hI.slot 11 (by kernel_rfl)).trans a11
  have s8 := (hI.slot 8 (by kernel_rfl)).trans a8
  have s0 := (hI.slot 0 (by kernel_rfl)).trans a0
  have s9 := (hI.slot 9 (by kernel_rfl)).trans a9
  have s4 := (hI.slot 4 (by kernel_rfl)).trans a4
  have fs := And.intro True.intro True.intro
  simp only [Array.getD_eq_getD_getElem?] at s11 s8 s0 s9 s4
  have hic : i' = 0 ∨ i' = 1 ∨ i' = 2 ∨ i' = 3 ∨ i' = 4 ∨ i' = 5 ∨ i' = 6 ∨ i' = 7 ∨ i' = 8 ∨ i' = 9 ∨ i' = 10 ∨ i' = 11 ∨ i' = 12 ∨ i' = 13 ∨ i' = 14 ∨ i' = 15 ∨ i' = 16 ∨ i' = 17 ∨ i' = 18 ∨ i' = 19 ∨ i' = 20 ∨ i' = 21 := by omega
  clear hi'
  rcases hic with rfl | rfl | rfl | rfl | rfl | rfl | rfl | rfl | rfl | rfl | rfl | rfl | rfl | rfl | rfl | rfl | rfl | rfl | rfl | rfl | rfl | rfl
  all_goals cases ho
  · go_simp
    exact hK' _ _ ⟨nB, rv, hI.step pqRa 0 106 rfl (by rw [hsz]; decide) _ _ ho2 hall trivial (fun _ _ h => h) rfl, (fun h => hC (listed_set h)), hE.other (by decide) (by decide) (by decide)⟩
  · go_simp
    exact hK' _ _ ⟨nB, rv, hI.step pqRa 1 107 rfl (by rw [hsz]; decide) _ _ ho2 hall trivial (fun _ _ h => h) rfl, (fun h => hC (listed_set h)), hE.other (by decide) (by decide) (by decide)⟩
  · have e1 : c.tmps.getD 107 undef = .pointer (some ⟨gn, kk, none⟩) := hI.fact 1 107 rfl (hI.1.2.2.1.2.yes_far 22 ho2 hall (by decide) (by kernel_rfl))
    have f1 := e1
    simp only [Array.getD_eq_getD_getElem?] at e1
    go_simp
    exact hK' _ _ ⟨nB, rv, hI.step pqRa 2 108 rfl (by rw [hsz]; decide) _ _ ho2 hall trivial (fun _ _ h => h) rfl, (fun h => hC (listed_set h)), hE.other (by decide) (by decide) (by decide)⟩
  · have e2 : c.tmps.getD 108 undef = .pointer (some ⟨gn, kk, none⟩) := hI.fact 2 108 rfl (hI.1.2.2.1.2.yes_far 22 ho2 hall (by decide) (by kernel_rfl))
    have f2 := e2
    simp only [Array.getD_eq_getD_getElem?] at e2
    go_simp
    exact hK' _ _ ⟨nB, rv, hI.step pqRa 3 109 rfl (by rw [hsz]; decide) _ _ ho2 hall trivial (fun _ _ h => h) rfl, (fun h => hC (listed_set h)), hE.other (by decide) (by decide) (by decide)⟩
  · have e3 : c.tmps.getD 109 undef = .pointer (some ⟨gn, kk + 2, none⟩) := hI.fact 3 109 rfl (hI.1.2.2.1.2.yes_far 22 ho2 hall (by decide) (by kernel_rfl))
    have f3 := e3
    simp only [Array.getD_eq_getD_getElem?] at e3
    have hc := hC (hI.1.2.2.1.2.no_far 22 hl (by kernel_rfl : farB pqOps 22 21 4 = true))
    have x0 := hc.1
    go_simp
    exact hK' _ _ ⟨nB, rv, hI.step pqRa 4 110 rfl (by rw [hsz]; decide) _ _ ho2 hall trivial (fun _ _ h => h) rfl, (fun h => hC (listed_set h)), hE.other (by decide) (by decide) (by decide)⟩
  · go_simp
    exact hK' _ _ ⟨nB, rv, hI.step pqRa 5 111 rfl (by rw [hsz]; decide) _ _ ho2 hall trivial (fun _ _ h => h) rfl, (fun h => hC (listed_set h)), hE.other (by decide) (by decide) (by decide)⟩
  · go_simp
    exact hK' _ _ ⟨nB, rv, hI.step pqRa 6 112 rfl (by rw [hsz]; decide) _ _ ho2 hall trivial (fun _ _ h => h) rfl, (fun h => hC (listed_set h)), hE.other (by decide) (by decide) (by decide)⟩
  · have e6 : c.tmps.getD 112 undef = .pointer (some ⟨rb, 0, none⟩) := hI.fact 6 112 rfl (hI.1.2.2.1.2.yes_far 22 ho2 hall (by decide) (by kernel_rfl))
    have f6 := e6
    simp only [Array.getD_eq_getD_getElem?] at e6
    go_simp
    exact hK' _ _ ⟨nB, rv, hI.step pqRa 7 113 rfl (by rw [hsz]; decide) _ _ ho2 hall trivial (fun _ _ h => h) rfl, (fun h => hC (listed_set h)), hE.other (by decide) (by decide) (by decide)⟩
  · have e7 : c.tmps.getD 113 undef = .pointer (some ⟨rb, 0, none⟩) := hI.fact 7 113 rfl (hI.1.2.2.1.2.yes_far 22 ho2 hall (by decide) (by kernel_rfl))
    have f7 := e7
    simp only [Array.getD_eq_getD_getElem?] at e7
    go_simp
    exact hK' _ _ ⟨nB, rv, hI.step pqRa 8 114 rfl (by rw [hsz]; decide) _ _ ho2 hall trivial (fun _ _ h => h) rfl, (fun h => hC (listed_set h)), hE.other (by decide) (by decide) (by decide)⟩
  · have e8 : c.tmps.getD 114 undef = .pointer (some ⟨rb, 0, none⟩) := hI.fact 8 114 rfl (hI.1.2.2.1.2.yes_far 22 ho2 hall (by decide) (by kernel_rfl))
    have f8 := e8
    simp only [Array.getD_eq_getD_getElem?] at e8
    have hc := hC (hI.1.2.2.1.2.no_far 22 hl (by kernel_rfl : farB pqOps 22 21 9 = true))
    have x0 := hc.2.2.1.cell 0
    go_simp
    exact hK' _ _ ⟨nB, rv, hI.step pqRa 9 115 rfl (by rw [hsz]; decide) _ _ ho2 hall trivial (fun _ _ h => h) rfl, (fun h => hC (listed_set h)), hE.other (by decide) (by decide) (by decide)⟩
  · go_simp
    exact hK' _ _ ⟨nB, rv, hI.step pqRa 10 116 rfl (by rw [hsz]; decide) _ _ ho2 hall trivial (fun _ _ h => h) rfl, (fun h => hC (listed_set h)), hE.other (by decide) (by decide) (by decide)⟩
  · go_simp
    exact hK' _ _ ⟨nB, rv, hI.step pqRa 11 117 rfl (by rw [hsz]; decide) _ _ ho2 hall trivial (fun _ _ h => h) rfl, (fun h => hC (listed_set h)), hE.other (by decide) (by decide) (by decide)⟩
  · go_simp
    exact hK' _ _ ⟨nB, rv, hI.step pqRa 12 118 rfl (by rw [hsz]; decide) _ _ ho2 hall trivial (fun _ _ h => h) rfl, (fun h => hC (listed_set h)), hE.other (by decide) (by decide) (by decide)⟩
  · have e11 : c.tmps.getD 117 undef = .int .i64 (i0 : Int) := hI.fact 11 117 rfl (hI.1.2.2.1.2.yes_far 22 ho2 hall (by decide) (by kernel_rfl))
    have f11 := e11
    simp only [Array.getD_eq_getD_getElem?] at e11
    have e12 : c.tmps.getD 118 undef = .int .i64 (m1 : Int) := hI.fact 12 118 rfl (hI.1.2.2.1.2.yes_far 22 ho2 hall (by decide) (by kernel_rfl))
    have f12 := e12
    simp only [Array.getD_eq_getD_getElem?] at e12
    have hc := hC (hI.1.2.2.1.2.no_far 22 hl (by kernel_rfl : farB pqOps 22 21 13 = true))
    have hw2 : IntKind.i64.wrap ((i0 : Int) + (m1 : Int)) = (i0 : Int) + (m1 : Int) := IntWalk.i64_in _ (by omega)
    go_simp
    exact hK' _ _ ⟨nB, rv, hI.step pqRa 13 119 rfl (by rw [hsz]; decide) _ _ ho2 hall trivial (fun _ _ h => h) rfl, (fun h => hC (listed_set h)), hE.other (by decide) (by decide) (by decide)⟩
  · have e9 : c.tmps.getD 115 undef = .slice (some ⟨g, ob, none⟩) b.length bc := hI.fact 9 115 rfl (hI.1.2.2.1.2.yes_far 22 ho2 hall (by decide) (by kernel_rfl))
    have f9 := e9
    simp only [Array.getD_eq_getD_getElem?] at e9
    have e10 : c.tmps.getD 116 undef = .int .i64 (i0 : Int) := hI.fact 10 116 rfl (hI.1.2.2.1.2.yes_far 22 ho2 hall (by decide) (by kernel_rfl))
    have f10 := e10
    simp only [Array.getD_eq_getD_getElem?] at e10
    have e13 : c.tmps.getD 119 undef = .int .i64 ((i0 : Int) + (m1 : Int)) := hI.fact 13 119 rfl (hI.1.2.2.1.2.yes_far 22 ho2 hall (by decide) (by kernel_rfl))
    have f13 := e13
    simp only [Array.getD_eq_getD_getElem?] at e13
    have hc := hC (hI.1.2.2.1.2.no_far 22 hl (by kernel_rfl : farB pqOps 22 21 14 = true))
    have kw := fun W : World => slice_win W g ob b.length bc i0 (i0 + m1) (by omega) (by omega) (by omega)
    simp only [Int.natCast_add, Nat.add_sub_cancel_left] at kw
    go_simp
    exact hK' _ _ ⟨nB, rv, hI.step pqRa 14 120 rfl (by rw [hsz]; decide) _ _ ho2 hall trivial (fun _ _ h => h) rfl, (fun h => hC (listed_set h)), hE.other (by decide) (by decide) (by decide)⟩
  · have e14 : c.tmps.getD 120 undef = .slice (some ⟨g, ob + i0, none⟩) m1 (bc - i0) := hI.fact 14 120 rfl (hI.1.2.2.1.2.yes_far 22 ho2 hall (by decide) (by kernel_rfl))
    have f14 := e14
    simp only [Array.getD_eq_getD_getElem?] at e14
    have hc := hC (hI.1.2.2.1.2.no_far 22 hl (by kernel_rfl : farB pqOps 22 21 15 = true))
    have kc := conv_win wx g ob b hc.2.2.2 i0 m1 (bc - i0) (by omega)
    rw [← hvl.out] at kc
    go_simp
    exact hK' _ _ ⟨nB, rv, hI.step pqRa 15 121 rfl (by rw [hsz]; decide) _ _ ho2 hall trivial (fun _ _ h => h) rfl, (fun h => hC (listed_set h)), hE.other (by decide) (by decide) (by decide)⟩
  · have e5 : c.tmps.getD 111 undef = .string nm := hI.fact 5 111 rfl (hI.1.2.2.1.2.yes_far 22 ho2 hall (by decide) (by kernel_rfl))
    have f5 := e5
    simp only [Array.getD_eq_getD_getElem?] at e5
    have e15 : c.tmps.getD 121 undef = .string vl := hI.fact 15 121 rfl (hI.1.2.2.1.2.yes_far 22 ho2 hall (by decide) (by kernel_rfl))
    have f15 := e15
    simp only [Array.getD_eq_getD_getElem?] at e15
    go_simp
    exact hK' _ _ ⟨nB, rv, hI.step pqRa 16 122 rfl (by rw [hsz]; decide) _ _ ho2 hall trivial (fun _ _ h => h) rfl, (fun h => hC (listed_set h)), hE.other (by decide) (by decide) (by decide)⟩
  · have e16 : c.tmps.getD 122 undef = .agg #[.string nm, .string vl] := hI.fact 16 122 rfl (hI.1.2.2.1.2.yes_far 22 ho2 hall (by decide) (by kernel_rfl))
    have f16 := e16
    simp only [Array.getD_eq_getD_getElem?] at e16
    have hc := hC (hI.1.2.2.1.2.no_far 22 hl (by kernel_rfl : farB pqOps 22 21 17 = true))
    have hp := hE.at0  hl
    have un := hI.1.2.2.1.2.no_far 22 hl (by kernel_rfl : farB pqOps 22 18 17 = true)
    have hp2 : Keeps (fun _ => False) W (wx.alloc (.cells #[.string nm, .string vl] 54)) ∧ Holds (wx.alloc (.cells #[.string nm, .string vl] 54)) wx.heap.size #[.string nm, .string vl] 54 ∧ W.heap.size ≤ wx.heap.size := ⟨hp.alloc _, Holds.new _ _ _, hp.size⟩
    have hc2 : PqC base rb gn kk g ob bc at_ i0 m1 np sv nv ov cv pv nm vl b xs W (wx.alloc (.cells #[.string nm, .string vl] 54)) := PrC.keeps hc ((Keeps.refl (fun _ => False) wx).alloc _) (fun e => e) (fun e => e) (fun e => e)
    go_simp
    have hJ : RInvF pqOps A (PqF base rb gn kk g ob bc at_ i0 m1 np sv nv ov cv pv nm vl b xs (wx.heap.size) rv) (fun _ => True) l c wx := ⟨hI.1.other (fun j hj u hF => PqF.ghost0 hF (yes_no hj hl)), hI.2⟩
    exact hK' _ _ ⟨wx.heap.size, _, hJ.step pqRa 17 123 rfl (by rw [hsz]; decide) _ _ ho2 hall trivial (fun _ _ h => PqF.world h) rfl, fun _ => hc2, PqE.to0  (by rw [hls]; decide) un hp2⟩
  · have e4 : c.tmps.getD 110 undef = pv := hI.fact 4 110 rfl (hI.1.2.2.1.2.yes_far 22 ho2 hall (by decide) (by kernel_rfl))
    have f4 := e4
    simp only [Array.getD_eq_getD_getElem?] at e4
    have e17 : c.tmps.getD 123 undef = .slice (some ⟨nB, 0, none⟩) 1 1 := hI.fact 17 123 rfl (hI.1.2.2.1.2.yes_far 22 ho2 hall (by decide) (by kernel_rfl))
    have f17 := e17
    simp only [Array.getD_eq_getD_getElem?] at e17
    have hc := hC (hI.1.2.2.1.2.no_far 22 hl (by kernel_rfl : farB pqOps 22 21 18 = true))
    have y0 : l.getD 17 false = true := hI.1.2.2.1.2.yes_far 22 ho2 hall (by decide) (by kernel_rfl)
    have hp := hE.at1 y0 hl
    have un := hI.1.2.2.1.2.no_far 22 hl (by kernel_rfl : farB pqOps 22 21 18 = true)
    obtain ⟨hp0, hpB, hpN⟩ := hp
    obtain ⟨i1, hi, hz0, hz1, hz2⟩ := info_parts infoProp
    refine step_append_src wx rfl (.tmp 110) (.tmp 123) 50 50 rfl base 54 i1 _ 2 32 Tryz.underlying50 hi hz0 hz1 hz2 rfl pv np xs (by exact f4) (ownsRow_keeps hpv hp0 (fun _ _ e => e)) _ (by exact f17) 1 [.string nm, .string vl] (prop_src hpB) (by unfold maxLen; omega) (by omega) (Nat.le_trans hbase hp0.size) ?_
    intro v3 w2 hown hgrow hat
    have hG2 : Grew wx w2 pv v3 := Grew.of hgrow hat
    have hp2 : w2.ownsRow base 54 2 v3 (np + 1) (xs ++ [.string nm, .string vl]) ∧ Grew W w2 pv v3 := ⟨hown, hG2.after hp0⟩
    have hc2 : PqC base rb gn kk g ob bc at_ i0 m1 np sv nv ov cv pv nm vl b xs W w2 := PrC.keeps hc hG2.1 hpg hpr hpb
    have hJ : RInvF pqOps A (PqF base rb gn kk g ob bc at_ i0 m1 np sv nv ov cv pv nm vl b xs nB (v3)) (fun _ => True) l c wx := ⟨hI.1.other (fun j hj u hF => PqF.ghost1 hF (yes_no hj hl)), hI.2⟩
    exact hK' _ _ ⟨_, v3, hJ.step pqRa 18 124 rfl (by rw [hsz]; decide) _ _ ho2 hall trivial (fun _ _ h => PqF.world h) rfl, fun _ => hc2, PqE.to1 y0 (by rw [hls]; decide) un hp2⟩
  · have e0 : c.tmps.getD 106 undef = .pointer (some ⟨gn, kk, none⟩) := hI.fact 0 106 rfl (hI.1.2.2.1.2.yes_far 22 ho2 hall (by decide) (by kernel_rfl))
    have f0 := e0
    simp only [Array.getD_eq_getD_getElem?] at e0
    go_simp
    exact hK' _ _ ⟨nB, rv, hI.step pqRa 19 125 rfl (by rw [hsz]; decide) _ _ ho2 hall trivial (fun _ _ h => h) rfl, (fun h => hC (listed_set h)), hE.other (by decide) (by decide) (by decide)⟩
  · have e19 : c.tmps.getD 125 undef = .pointer (some ⟨gn, kk, none⟩) := hI.fact 19 125 rfl (hI.1.2.2.1.2.yes_far 22 ho2 hall (by decide) (by kernel_rfl))
    have f19 := e19
    simp only [Array.getD_eq_getD_getElem?] at e19
    go_simp
    exact hK' _ _ ⟨nB, rv, hI.step pqRa 20 126 rfl (by rw [hsz]; decide) _ _ ho2 hall trivial (fun _ _ h => h) rfl, (fun h => hC (listed_set h)), hE.other (by decide) (by decide) (by decide)⟩
  · have e18 : c.tmps.getD 124 undef = rv := hI.fact 18 124 rfl (hI.1.2.2.1.2.yes_far 22 ho2 hall (by decide) (by kernel_rfl))
    have f18 := e18
    simp only [Array.getD_eq_getD_getElem?] at e18
    have e20 : c.tmps.getD 126 undef = .pointer (some ⟨gn, kk + 2, none⟩) := hI.fact 20 126 rfl (hI.1.2.2.1.2.yes_far 22 ho2 hall (by decide) (by kernel_rfl))
    have f20 := e20
    simp only [Array.getD_eq_getD_getElem?] at e20
    have hc := hC (hI.1.2.2.1.2.no_far 22 hl (by kernel_rfl : farB pqOps 22 21 21 = true))
    have y0 : l.getD 17 false = true := hI.1.2.2.1.2.yes_far 22 ho2 hall (by decide) (by kernel_rfl)
    have y1 : l.getD 18 false = true := hI.1.2.2.1.2.yes_far 22 ho2 hall (by decide) (by kernel_rfl)
    have hp := hE.at2 y0 y1 hl
    obtain ⟨a2, c2, rfl⟩ := row_slice hp.1
    have x0 := hc.1
    have x1 := hc.2.1
    have x2 := World.block_lt_of_cell? wx _ hc.1
    go_simp
    have hp2 := (⟨_, rfl, hp.1, hp.2⟩ : ∃ w3, wx.setCell ⟨gn, kk + 2, none⟩ (.slice a2 (np + 1) c2) = w3.setCell ⟨gn, kk + 2, none⟩ (.slice a2 (np + 1) c2) ∧ w3.ownsRow base 54 2 (.slice a2 (np + 1) c2) (np + 1) (xs ++ [.string nm, .string vl]) ∧ Grew W w3 pv (.slice a2 (np + 1) c2))
    exact hK' _ _ ⟨_, _, hI.stepN 21 rfl _ ho2 hall trivial (fun _ _ h => PqF.world h) trivial, fun h => absurd h (by rw [set_here (by rw [hls]; decide)]; simp), PqE.to2 y0 y1 (by rw [hls]; decide) hp2⟩
end Go.Proofs.YtofhcgbihonckaaGreatDoor

namespace Go.Proofs.YtofhcgbihonckaaGreatDoor
open Go.RowKit Go.ChangeMaps

theorem RdIn.wide {w wx wy : World} {rb base : Nat} {bv sv : Value} {b s : List UInt8} (h : RdIn w rb base bv sv b s) (k : Keeps (· = rb) wx wy) : Keeps (fun g => base ≤ g) wx wy :=
  k.mono fun g _ e => by have := h.rb; have e' : g = rb := e; omega
set_option maxRecDepth 100000 in
set_option maxHeartbeats 8000000 in
theorem blob_property (rb base : Nat) (ba : Option Addr) (bc : Nat) (sa : Option Addr) (sc : Nat) (b s : List UInt8) (st : RdS) (nv ov cv : Value) (w : World) (h : RdAt w rb base (.slice ba b.length bc) (.slice sa s.length sc) st nv ov cv)
    (hi : RdIn w rb base (.slice ba b.length bc) (.slice sa s.length sc) b s) (ha : st.at_ ≤ b.length) (o : Nat) (ro : List Nat) (hop : st.opn = o :: ro) (ho : o < st.nodes.length) (hn : st.nodes.length ≤ 120) (hol : st.opn.length ≤ 100) (hpl : (st.nodes[o]'ho).props.length ≤ 100000) :
    Calls Tryz.prog 74 #[.pointer (some ⟨rb, 0, none⟩)] w (StPost rb base (.slice ba b.length bc) (.slice sa s.length sc) (propR b s st) w) := by
  obtain ⟨ba', bc', hbe, hc1, hc2, hat⟩ := hi.bat
  cases hbe
  obtain ⟨g, ob, rfl, hcb⟩ := hat hi.b0
  have hroom := hi.room _ _ _ rfl
  have hgr : g < base := hi.bel g rfl
  have HCB := Lib.hid hcb
  clear hat hcb
  have hgne : ∀ x, Value.ownBlock (.slice (some ⟨g, ob, none⟩) b.length bc) = some x → x ≠ rb := fun x hg => by have := hi.bel x hg; have := hi.rb; omega
  have HN := Lib.hid (fun (a : Nat) (wx : World) (hH : Holds wx rb (rdC (.slice (some ⟨g, ob, none⟩) b.length bc) (.slice sa s.length sc) a nv ov cv 0 0) 75) (hb : BytesAt wx (.slice (some ⟨g, ob, none⟩) b.length bc) b) (ha : a ≤ 1000000000) =>
    blob_number rb (some ⟨g, ob, none⟩) bc (.slice sa s.length sc) a nv ov cv b wx hH hb hgne (by have := hi.bl; omega) ha)
  have HFL := Lib.hid (fun (a : Nat) (p er : Int) (wx : World) (hH : Holds wx rb (rdC (.slice (some ⟨g, ob, none⟩) b.length bc) (.slice sa s.length sc) a nv ov cv 0 0) 75) => blob_fail rb (.slice (some ⟨g, ob, none⟩) b.length bc) (.slice sa s.length sc) a nv ov cv 0 p er wx hH)
  have HST := Lib.hid (fun (a k : Nat) (wx : World) (hH : Holds wx rb (rdC (.slice (some ⟨g, ob, none⟩) b.length bc) (.slice sa s.length sc) a nv ov cv 0 0) 75) (hx : RdIn wx rb base (.slice (some ⟨g, ob, none⟩) b.length bc) (.slice sa s.length sc) b s) (hk : k ≤ 10000000000) =>
    blob_string rb (.slice (some ⟨g, ob, none⟩) b.length bc) sa sc a nv ov cv s k wx hH hx.sat (by have := hx.sl; omega) hk hx.lay)
  have HFT := Lib.hid (fun (a n : Nat) (wx : World) (hH : Holds wx rb (rdC (.slice (some ⟨g, ob, none⟩) b.length bc) (.slice sa s.length sc) a nv ov cv 0 0) 75) (hk : n ≤ 10000000000) (ha : a ≤ 1000000000) =>
    blob_fits rb (some ⟨g, ob, none⟩) b.length bc (.slice sa s.length sc) a n nv ov cv wx hH (by have := hi.bl; omega) hk ha)
  have x2 : w.cell? ⟨rb, 2, none⟩ = some (.int .i64 st.at_) := h.1.cell 2
  have hl := h.1.lt
  have HH := Lib.hid h
  have HI := Lib.hid hi
  have hbl := hi.bl
  clear h hi
  obtain ⟨i0, hi0⟩ : ∃ i0, i0 = st.at_ := ⟨_, rfl⟩
  rw [← hi0] at x2 ha
  have HI0 := Lib.hid hi0
  have HOP := Lib.hid hop
  clear hi0 hop
  have h1c := HN.out i0 w (by rw [HI0.out]; exact HH.out.1) HI.out.bat (by omega)
  unfold NumPost at h1c
  by_cases c1 : i0 + 4 ≤ b.length
  · have hr1 := Lib.hid (show nbR b i0 = .ok (numB b i0) from by unfold nbR; rw [if_pos c1])
    have hn1 := numB_le b i0
    obtain ⟨n1, hN1⟩ : ∃ n1, n1 = numB b i0 := ⟨_, rfl⟩
    rw [← hN1] at hr1 h1c hn1
    have HN1 := Lib.hid hN1
    have C1 := Lib.hid c1
    have H1C := Lib.hid h1c
    clear h1c hN1
    go_enter Tryz.func74, Tryz.ntmps74
    go_wp2_with fail
    refine (by exact H1C.out : Calls _ _ _ _ _).mono ?_
    rintro e w1 ⟨h1, -⟩
    obtain ⟨rfl, hH1, hK1⟩ := h1 C1.out
    have x12 : w1.cell? ⟨rb, 2, none⟩ = some (.int .i64 ((i0 + 4 : Nat) : Int)) := hH1.cell 2
    rw [Int.natCast_add] at x12
    have hl1 := hH1.lt
    have HH1 := Lib.hid hH1
    have HK1 := Lib.hid (HI.out.wide hK1)
    have KN1 := Lib.hid hK1
    have HI1 := Lib.hid (HI.out.one hK1)
    clear hH1 hK1 h1
    by_cases c2 : 256 < n1
    · have d2 : decide ((256 : Int) < (n1 : Int)) = true := by simp; omega
      have d2' : decide (256 < n1) = true := by simpa using c2
      have hp := Lib.hid (show propR b s st = .error (i0, 3) from by unfold propR; rw [← HI0.out, hr1.out]; simp only []; rw [if_pos c2])
      have hfl := Lib.hid (HFL.out (i0 + 4) i0 3 w1 HH1.out)
      clear c2
      go_wp2_with fail
      refine (by exact hfl.out : Calls _ _ _ _ _).mono ?_
      rintro e w2 ⟨rfl, hH2, hK2⟩
      go_wp2_with fail
      go_ret
      rw [hp.out]
      exact ⟨HK1.out.trans (HI.out.wide hK2) (fun _ _ e => e), rfl, _, _, _, _, hH2⟩
    · have d2 : decide ((256 : Int) < (n1 : Int)) = false := by simp; omega
      have d2' : decide (256 < n1) = false := by simpa using c2
      have h2c := HN.out (i0 + 4) w1 HH1.out HI1.out.bat (by omega)
      unfold NumPost at h2c
      have hp1 := Lib.hid (show propR b s st = (match nbR b (i0 + 4) with
        | .error e => .error e
        | .ok pl => match stringR s pl with
          | none => .error (i0 + 4, 2)
          | some nm =>
            if b.length < i0 + 8 + (n1 + 3) / 4 * 4 then .error (b.length, 21)
            else if zeroB ((b.drop (i0 + 8 + n1)).take ((n1 + 3) / 4 * 4 - n1)) = false then .error (i0 + 8, 6)
            else .ok { st with at_ := i0 + 8 + (n1 + 3) / 4 * 4, nodes := addProp st.nodes (st.opn.headD 0) ⟨⟨nm.toArray⟩, ⟨((b.drop (i0 + 8)).take n1).toArray⟩⟩ }) from by
        unfold propR; rw [← HI0.out, hr1.out]; simp only []; rw [if_neg c2]; cases nbR b (i0 + 4) <;> rfl)
      by_cases c3 : i0 + 8 ≤ b.length
      · have hn2 := numB_le b (i0 + 4)
        have hr2 := Lib.hid (show nbR b (i0 + 4) = .ok (numB b (i0 + 4)) from by unfold nbR; rw [if_pos (by omega)])
        obtain ⟨n2, hN2⟩ : ∃ n2, n2 = numB b (i0 + 4) := ⟨_, rfl⟩
        rw [← hN2] at hr2 h2c hn2
        have HN2 := Lib.hid hN2
        have C3 := Lib.hid (show i0 + 4 + 4 ≤ b.length by omega)
        have H2C := Lib.hid h2c
        clear h2c hN2 c1
        go_wp2_with fail
        refine (by exact H2C.out : Calls _ _ _ _ _).mono ?_
        rintro e w2 ⟨h2, -⟩
        obtain ⟨rfl, hH2, hK2⟩ := h2 C3.out
        rw [show i0 + 4 + 4 = i0 + 8 from by omega] at hH2
        have x22 : w2.cell? ⟨rb, 2, none⟩ = some (.int .i64 ((i0 + 8 : Nat) : Int)) := hH2.cell 2
        rw [Int.natCast_add] at x22
        have hl2 := hH2.lt
        have HH2 := Lib.hid hH2
        have KN2 := Lib.hid (KN1.out.trans hK2 (fun _ _ e => e))
        have HK2 := Lib.hid (HK1.out.trans (HI.out.wide hK2) (fun _ _ e => e))
        have HI2 := Lib.hid (HI1.out.one hK2)
        have hst := HST.out (i0 + 8) n2 w2 HH2.out HI2.out (by omega)
        clear hH2 hK2 h2
        have hp2 := hp1.out
        rw [hr2.out] at hp2
        simp only [] at hp2
        have hsl : ∀ nm, stringR s n2 = some nm → nm.length ≤ s.length ∧ 0 < s.length := fun nm e => by
          unfold stringR at e
          split at e
          · cases e
          · rename_i hno; cases e; have := upto_le (s.drop n2); rw [List.length_drop] at this; have : ¬ s.length ≤ n2 := fun e => hno (.inl e); constructor <;> omega
        generalize stringR s n2 = S2 at hst hp2 hsl
        cases S2 with
        | none =>
          have hp := Lib.hid (show propR b s st = .error (i0 + 4, 2) from hp2)
          have hfl := Lib.hid (fun q => HFL.out (i0 + 8) ((i0 : Int) + 4) 2 (w2.drewN q) (HH2.out.drewN q))
          have HS := Lib.hid hst
          clear hp2 hst hsl
          go_wp2_with fail
          refine (by exact HS.out : Calls _ _ _ _ _).mono ?_
          rintro e w3 ⟨rfl, q, rfl⟩
          unfold strV
          go_wp2_with fail
          refine (by exact hfl.out q : Calls _ _ _ _ _).mono ?_
          rintro e w4 ⟨rfl, hH4, hK4⟩
          go_wp2_with fail
          go_ret
          rw [hp.out]
          exact ⟨(HK2.out.drewN q).trans (HI.out.wide hK4) (fun _ _ e => e), rfl, _, _, _, _, by simpa using hH4⟩
        | some nm =>
          obtain ⟨hnl, hs0⟩ := hsl nm rfl
          have HS := Lib.hid hst
          have HP2 := Lib.hid hp2
          clear hp2 hst hsl
          go_wp2_with fail
          refine (by exact HS.out : Calls _ _ _ _ _).mono ?_
          rintro e w3 ⟨rfl, q, rfl⟩
          unfold strV
          obtain ⟨wh, hwh⟩ : ∃ wh, wh = (n1 + 3) / 4 * 4 := ⟨_, rfl⟩
          have jw : ((n1 : Int) + 3) / 4 * 4 = (wh : Int) := by omega
          have jf : IntKind.i64.wrap ((i0 : Int) + 8 + (wh : Int)) = (i0 : Int) + 8 + (wh : Int) := IntWalk.i64_in _ (by omega)
          have jn : IntKind.i64.wrap ((i0 : Int) + 8 + (n1 : Int)) = (i0 : Int) + 8 + (n1 : Int) := IntWalk.i64_in _ (by omega)
          have hnw : n1 ≤ wh ∧ wh ≤ n1 + 3 := by omega
          have hf := HFT.out (i0 + 8) wh (w2.drewN q) (HH2.out.drewN q) (by omega) (by omega)
          unfold FitPost at hf
          have HF := Lib.hid hf
          have HWH := Lib.hid hwh
          clear hf hwh
          go_wp2_with fail
          refine (by exact HF.out : Calls _ _ _ _ _).mono ?_
          rintro e w4 ⟨h4, h5⟩
          by_cases c5 : i0 + 8 + wh ≤ b.length
          · obtain ⟨rfl, hH4, hK4⟩ := h4 c5
            clear h4 h5
            have y0 : w4.cell? ⟨rb, 0, none⟩ = some (.slice (some ⟨g, ob, none⟩) b.length bc) := hH4.cell 0
            have y2 : w4.cell? ⟨rb, 2, none⟩ = some (.int .i64 ((i0 + 8 : Nat) : Int)) := hH4.cell 2
            rw [Int.natCast_add] at y2
            have g2 := hH4.free 2
            have hl4 := hH4.lt
            have HH4 := Lib.hid hH4
            obtain ⟨w5, hw5⟩ : ∃ w5, w5 = w4.setCell ⟨rb, 2, none⟩ (.int .i64 ((i0 : Int) + 8 + (wh : Int))) := ⟨_, rfl⟩
            have hH5 : Holds w5 rb (rdC (.slice (some ⟨g, ob, none⟩) b.length bc) (.slice sa s.length sc) (i0 + 8 + wh) nv ov cv 0 0) 75 := by
              rw [hw5]; have := hH4.set 2 (.int .i64 ((i0 : Int) + 8 + (wh : Int))); rw [show (i0 : Int) + 8 + (wh : Int) = ((i0 + 8 + wh : Nat) : Int) by omega] at this ⊢; exact this
            have hK5 : Keeps (· = rb) w w5 := by
              rw [hw5]; exact ((KN2.out.drewN q).trans (S := (· = rb)) hK4 (fun _ _ e => e.elim)).setCell (p := ⟨rb, 2, none⟩) (.inr rfl) _
            have hR5 := HH.out.turn hK5 (i0 + 8 + wh) hH5
            have HI5 := Lib.hid (HI.out.one hK5)
            have HW5 := Lib.hid hw5
            have HR5 := Lib.hid hR5
            have HH5 := Lib.hid hH5
            have HK5 := Lib.hid hK5
            have z0 : w5.cell? ⟨rb, 0, none⟩ = some (.slice (some ⟨g, ob, none⟩) b.length bc) := hH5.cell 0
            have z2 : w5.cell? ⟨rb, 2, none⟩ = some (.int .i64 ((i0 + 8 + wh : Nat) : Int)) := hH5.cell 2
            rw [Int.natCast_add, Int.natCast_add] at z2
            have hl5 := hH5.lt
            clear hw5 hH4 hK4 hR5 hH5 hK5
            go_wp2_with fail
            rw [← HW5.out]
            clear y0 y2 g2
            have kw := fun W : World => slice_win W g ob b.length bc (i0 + 8 + n1) (i0 + 8 + wh) (by omega) (by omega) (by omega)
            have kv := fun W : World => slice_win W g ob b.length bc (i0 + 8) (i0 + 8 + n1) (by omega) (by omega) (by omega)
            have hcv := Lib.hid (fun (wx : World) (hx : Keeps (fun g => base ≤ g) w wx) => conv_win wx g ob b (fun i hi => (hx.cell (p := ⟨g, ob + i, none⟩) (World.block_lt_of_cell? w _ (HCB.out i hi)) (by show ¬ base ≤ g; omega)).trans (HCB.out i hi)) (i0 + 8 + n1) (i0 + 8 + wh - (i0 + 8 + n1)) (bc - (i0 + 8 + n1)) (by omega))
            have hct := Lib.hid (fun (wx : World) (hx : Keeps (fun g => base ≤ g) w wx) => conv_win wx g ob b (fun i hi => (hx.cell (p := ⟨g, ob + i, none⟩) (World.block_lt_of_cell? w _ (HCB.out i hi)) (by show ¬ base ≤ g; omega)).trans (HCB.out i hi)) (i0 + 8) (i0 + 8 + n1 - (i0 + 8)) (bc - (i0 + 8)) (by omega))
            rw [show i0 + 8 + wh - (i0 + 8 + n1) = wh - n1 by omega] at hcv
            rw [show i0 + 8 + n1 - (i0 + 8) = n1 by omega] at hct
            have htr := Lib.hid (fun (wx : World) => Tryz.strings_Trim_one ⟨((b.drop (i0 + 8 + n1)).take (wh - n1)).toArray⟩ 0 (by decide) wx (by simp only [ByteArray.size, List.size_toArray, List.length_take]; omega))
            simp only [show i0 + 8 + wh - (i0 + 8 + n1) = wh - n1 by omega] at kw
            simp only [show i0 + 8 + n1 - (i0 + 8) = n1 by omega] at kv
            have cst : ((8 : Nat) : Int) = 8 := rfl
            simp only [Int.natCast_add, cst] at kw kv
            clear cst
            generalize hWn : (b.drop (i0 + 8 + n1)).take (wh - n1) = Wn at hcv htr
            have HWn := Lib.hid hWn
            generalize hTn : (b.drop (i0 + 8)).take n1 = Tn at hct
            have HTn := Lib.hid hTn
            clear hWn hTn
            have hK5' := HI.out.wide HK5.out
            have kc := fun q : Nat => hcv.out (w5.drewN q) (hK5'.drewN q)
            have kc0 := hcv.out w5 hK5'
            have HK5' := Lib.hid hK5'
            clear hK5'
            by_cases hz : zeroB Wn = true
            · rw [show Lib.trimB (⟨Wn.toArray⟩ : ByteArray).data.toList 0 = [] from (trim_zero Wn).2 hz] at htr
              have HZ := Lib.hid hz
              clear hz
              go_quiet ((go_at_call 90; exact Calls.quiet_of ((htr.out _).mono (fun _ _ ⟨p, q⟩ => ⟨p, q.elim (fun q => ⟨0, q⟩) (fun q => ⟨1, q⟩)⟩))))
              go_wp2_with fail
              obtain ⟨_, hT, hO, hC⟩ := HR5.out
              have hT' : TreeS w5 base nv st.nodes := hT
              have hO' : w5.ownsRow base 3 1 ov (ro.length + 1) ((ro.reverse.map fun (n : Nat) => Value.int .i64 (n : Int)) ++ [.int .i64 (o : Int)]) := by
                have := hO
                rw [show (({ st with at_ := i0 + 8 + wh } : RdS)).opn = o :: ro from HOP.out] at this
                simpa using this
              clear hT hO hC
              obtain ⟨gn, nc, rfl, hgn1, hgn2⟩ := (show ∃ g cap, nv = .slice (some ⟨g, 0, none⟩) st.nodes.length cap ∧ base ≤ g ∧ g < w5.heap.size from by obtain ⟨_, pvs, q1, q2, _⟩ := hT'; exact q2.form (by omega))
              obtain ⟨go, oc, rfl, hgo1, hgo2⟩ := hO'.form (by omega)
              obtain ⟨pv, p1, p2, p3, p4, p5, p6⟩ := hT'.putS o ho
              have oz : w5.cell? ⟨go, ro.length, none⟩ = some (.int .i64 (o : Int)) := by
                rw [hO'.cellAt ro.length (by omega), List.getElem?_append_right (by simp)]
                simp
              have z3 : w5.cell? ⟨rb, 3, none⟩ = some (.slice (some ⟨gn, 0, none⟩) st.nodes.length nc) := HH5.out.cell 3
              have z4 : w5.cell? ⟨rb, 4, none⟩ = some (.slice (some ⟨go, 0, none⟩) (ro.length + 1) oc) := HH5.out.cell 4
              have HT := Lib.hid hT'
              have HO := Lib.hid hO'
              have HP2' := Lib.hid p2
              have HP6 := Lib.hid p6
              have HP5 := Lib.hid p5
              have hrl : ro.length + 1 ≤ 100 := by rw [HOP.out] at hol; simpa using hol
              have k1 : IntKind.i64.wrap (((ro.length + 1 : Nat) : Int) - 1) = (ro.length : Int) := by rw [IntWalk.i64_in _ (by omega)]; omega
              have HPL := Lib.hid hpl
              have P5 := Lib.hid p5
              clear p2 p5 p6 hT' hO' hpl
              go_quiet (fail)
              go_wp2_with fail
              have hprow := HP2'.out
              have hR5 := HR5.out
              have hpn : pv.ownBlock ≠ some rb := fun e => by obtain ⟨_, c2, hc2⟩ := owned_holds hprow.1 e; exact absurd (holds_type HH5.out hc2) (by decide)
              have hpg : pv.ownBlock ≠ some g := fun e => by have := (hprow.1.lt g e).1; omega
              have hcells : ∀ (i : Nat) (h : i < b.length), w5.cell? ⟨g, ob + i, none⟩ = some (.int .u8 b[i].toNat) := fun i hi => (HK5'.out.cell (p := ⟨g, ob + i, none⟩) (World.block_lt_of_cell? w _ (HCB.out i hi)) (by show ¬ base ≤ g; omega)).trans (HCB.out i hi)
              have hpc : PrC rb gn (o * 3) g ob bc (i0 + 8 + wh) (.slice sa s.length sc) (.slice (some ⟨gn, 0, none⟩) st.nodes.length nc) (.slice (some ⟨go, 0, none⟩) (ro.length + 1) oc) cv pv b w5 :=
                ⟨p1, (P5.out w5 (Keeps.refl _ w5)).2, HH5.out, hcells⟩
              refine wp_region_any (by kernel_rfl) ?_
              refine wpAny_ops (ops' := pqOps) (by kernel_rfl) ?_
              refine pq_region22 base rb gn (o * 3) g ob bc (i0 + 8 + wh) (i0 + 8) n1 (st.nodes[o]'ho).props.length (.slice sa s.length sc) (.slice (some ⟨gn, 0, none⟩) st.nodes.length nc) (.slice (some ⟨go, 0, none⟩) (ro.length + 1) oc) cv pv ⟨nm.toArray⟩ ⟨Tn.toArray⟩ b (propCells (st.nodes[o]'ho).props) w5 _ _ rfl hprow.1 (by have := HPL.out; omega) (by omega) hc1 (by omega) (by omega) (Lib.hid (by rw [HTn.out])) (by omega) p3 hpn hpg rfl rfl rfl (by rw [Int.natCast_add]; rfl) rfl (hpc.keeps (((Keeps.refl (fun _ => False) w5).drewN _).drew) (fun e => e) (fun e => e) (fun e => e)) (((Keeps.refl (fun _ => False) w5).drewN _).drew) ?_
              rintro c w6 nB rv hsb ⟨w7, rfl, ho7, hG7⟩
              obtain ⟨y106, y107, y108, y109, y110, y111, y112, y113, y114, y115, y116, y117, y118, y119, y120, y121, y122, y123, y124, y125, y126, rfl⟩ := hsb.ex [106, 107, 108, 109, 110, 111, 112, 113, 114, 115, 116, 117, 118, 119, 120, 121, 122, 123, 124, 125, 126] (by kernel_rfl)
              simp only [List.setIfInBounds_toArray, List.set_cons_zero, List.set_cons_succ]
              have hpok : PropOk ⟨⟨nm.toArray⟩, ⟨Tn.toArray⟩⟩ := by
                have e1 : Tn.length ≤ n1 := by rw [← HTn.out, List.length_take]; omega
                constructor
                · show nm.toArray.size ≤ _; simp; omega
                · show Tn.toArray.size ≤ _; simp; omega
              obtain ⟨hR7, hK7⟩ := RdAt.propped hR5 ho hprow HP6.out ⟨⟨nm.toArray⟩, ⟨Tn.toArray⟩⟩ hpok ho7 hG7
              have hp := Lib.hid (show propR b s st = .ok { st with at_ := i0 + 8 + wh, nodes := addProp st.nodes o ⟨⟨nm.toArray⟩, ⟨Tn.toArray⟩⟩ } from by
                rw [HP2.out, ← HWH.out, if_neg (by omega), HWn.out, if_neg (by rw [HZ.out]; simp), HTn.out, HOP.out]; rfl)
              have HR7 := Lib.hid hR7
              have HK7 := Lib.hid (HK5'.out.trans hK7 (fun _ _ e => e))
              clear hR7 hK7 hR5 ho7 hG7 hcells hpc hprow
              go_wp2_with fail
              go_ret
              rw [hp.out]
              exact ⟨HK7.out, rfl, _, _, _, HR7.out⟩
            · obtain ⟨X, hX⟩ : ∃ X : ByteArray, X = ⟨(Lib.trimB (⟨Wn.toArray⟩ : ByteArray).data.toList 0).toArray⟩ := ⟨_, rfl⟩
              have hz' : zeroB Wn = false := by simpa using hz
              have hp := Lib.hid (show propR b s st = .error (i0 + 8, 6) from by
                rw [HP2.out, ← HWH.out, if_neg (by omega), HWn.out, if_pos hz'])
              have hXe : ¬ X.toList = [] := fun e => hz ((trim_zero Wn).1 (by
                rw [hX, ByteArray.toList_eq] at e
                simpa using e))
              have hXb : (X.toList == []) = false := by rw [beq_eq_false_iff_ne]; exact hXe
              have hXc : X.toList.isEmpty = false := by simpa using hXe
              rw [← hX] at htr
              have hfl := Lib.hid (fun q => HFL.out (i0 + 8 + wh) ((i0 : Int) + 8) 6 (w5.drewN q) (HH5.out.drewN q))
              clear hz hz' hX
              go_quiet ((go_at_call 90; exact Calls.quiet_of ((htr.out _).mono (fun _ _ ⟨p, q⟩ => ⟨p, q.elim (fun q => ⟨0, q⟩) (fun q => ⟨1, q⟩)⟩))))
              go_wp2_with fail
              refine (by exact hfl.out _ : Calls _ _ _ _ _).mono ?_
              rintro e w6 ⟨rfl, hH6, hK6⟩
              go_wp2_with fail
              go_ret
              rw [hp.out]
              exact ⟨(HK5'.out.drewN _).trans (HI.out.wide hK6) (fun _ _ e => e), rfl, _, _, _, _, by simpa using hH6⟩
          · obtain ⟨rfl, hH4, hK4⟩ := h5 c5
            have hp := Lib.hid (show propR b s st = .error (b.length, 21) from by rw [HP2.out, ← HWH.out, if_pos (by omega)])
            clear h4 h5
            go_wp2_with fail
            go_ret
            rw [hp.out]
            exact ⟨(HK2.out.drewN q).trans (HI.out.wide hK4) (fun _ _ e => e), rfl, _, _, _, _, hH4⟩
      · have hp := Lib.hid (show propR b s st = .error (b.length, 21) from by rw [hp1.out]; unfold nbR; rw [if_neg (by omega)])
        have C3 := Lib.hid (show ¬ i0 + 4 + 4 ≤ b.length by omega)
        have H2C := Lib.hid h2c
        clear h2c c3 c1 c2
        go_wp2_with fail
        refine (by exact H2C.out : Calls _ _ _ _ _).mono ?_
        rintro e w2 ⟨-, h2⟩
        obtain ⟨rfl, hH2, hK2⟩ := h2 C3.out
        go_wp2_with fail
        go_ret
        rw [hp.out]
        exact ⟨HK1.out.trans (HI.out.wide hK2) (fun _ _ e => e), rfl, _, _, _, _, hH2⟩
  · have hp := Lib.hid (show propR b s st = .error (b.length, 21) from by unfold propR nbR; rw [← HI0.out, if_neg c1])
    have C1 := Lib.hid c1
    have H1C := Lib.hid h1c
    clear c1 h1c
    go_enter Tryz.func74, Tryz.ntmps74
    go_wp2_with fail
    refine (by exact H1C.out : Calls _ _ _ _ _).mono ?_
    rintro e w1 ⟨-, h1⟩
    obtain ⟨rfl, hH1, hK1⟩ := h1 C1.out
    go_wp2_with fail
    go_ret
    rw [hp.out]
    exact ⟨HI.out.wide hK1, rfl, _, _, _, _, hH1⟩
end Go.Proofs.YtofhcgbihonckaaGreatDoor

namespace Go.Proofs.YtofhcgbihonckaaGreatDoor
open Go.RowKit
open Go.ChangeMaps
noncomputable def nqOps : Array Oper := (regOps (Tryz.f73.body.getD .skip) 11).getD #[]
theorem nqR : inRow2 .any nqOps = true := by kernel_rfl
theorem nqRa : apartB nqOps = true := by kernel_rfl
theorem nqRn : nqOps.size = 26 := by kernel_rfl
def NqF (_ rb _ nn _ : Nat) (_ _ nv ov cv : Value) (_ _ : List Value) (nB : Nat) (ov2 : Value) (cv2 : Value) (nC : Nat) (j : Nat) : Value → World → Prop := match j with
  | 0 => fun u _ => u = .pointer (some ⟨rb, 0, none⟩)
  | 1 => fun u _ => u = .pointer (some ⟨rb, 0, none⟩)
  | 2 => fun u _ => u = .pointer (some ⟨rb, 0, none⟩)
  | 3 => fun u _ => u = .pointer (some ⟨rb, 0, none⟩)
  | 4 => fun u _ => u = .pointer (some ⟨rb, 4, none⟩)
  | 5 => fun u _ => u = ov
  | 6 => fun u _ => u = .pointer (some ⟨rb, 0, none⟩)
  | 7 => fun u _ => u = .pointer (some ⟨rb, 0, none⟩)
  | 8 => fun u _ => u = .pointer (some ⟨rb, 3, none⟩)
  | 9 => fun u _ => u = .pointer (some ⟨rb, 3, none⟩)
  | 10 => fun u _ => u = nv
  | 11 => fun u _ => u = .int .i64 (nn : Int)
  | 12 => fun u _ => u = .slice (some ⟨nB, 0, none⟩) 1 1
  | 13 => fun u _ => u = ov2
  | 14 => fun u _ => u = .pointer (some ⟨rb, 0, none⟩)
  | 15 => fun u _ => u = .pointer (some ⟨rb, 0, none⟩)
  | 16 => fun u _ => u = .pointer (some ⟨rb, 5, none⟩)
  | 17 => fun u _ => u = cv
  | 18 => fun u _ => u = .slice (some ⟨nC, 0, none⟩) 1 1
  | 19 => fun u _ => u = cv2
  | 20 => fun u _ => u = .pointer (some ⟨rb, 0, none⟩)
  | 21 => fun u _ => u = .pointer (some ⟨rb, 4, none⟩)
  | 23 => fun u _ => u = .pointer (some ⟨rb, 0, none⟩)
  | 24 => fun u _ => u = .pointer (some ⟨rb, 5, none⟩)
  | _ => fun _ _ => True
/-- What holds until the chain's end. -/
def NqC (_ rb at_ _ _ : Nat) (bv sv nv ov cv : Value) (_ _ : List Value) (_ w : World) : Prop := Holds w rb (rdC bv sv at_ nv ov cv 0 0) 75
/-- Where the chain stands. -/
def NqE (base rb at_ nn ko : Nat) (bv sv nv ov cv : Value) (xo xc : List Value) (nB : Nat) (ov2 : Value) (cv2 : Value) (_ : Nat) (W w : World) (l : Array Bool) : Prop :=
  if l.getD 12 false = false then (Keeps (fun _ => False) W w) else
  if l.getD 13 false = false then (Keeps (fun _ => False) W w ∧ Holds w nB #[.int .i64 (nn : Int)] 3 ∧ W.heap.size ≤ nB) else
  if l.getD 19 false = false then (w.ownsRow base 3 1 ov2 (ko + 1) (xo ++ [.int .i64 (nn : Int)]) ∧ Keeps (fun g => ov.ownBlock = some g) W w ∧ True) else
  if l.getD 22 false = false then ((w.ownsRow base 3 1 ov2 (ko + 1) (xo ++ [.int .i64 (nn : Int)]) ∧ w.ownsRow base 4 1 cv2 (ko + 1) (xc ++ [.bool false])) ∧ Keeps (fun g => ov.ownBlock = some g ∨ cv.ownBlock = some g) W w ∧ Holds w rb (rdC bv sv at_ nv ov cv 0 0) 75) else
  if l.getD 25 false = false then (∃ w3, w = w3.setCell ⟨rb, 4, none⟩ ov2 ∧ (w3.ownsRow base 3 1 ov2 (ko + 1) (xo ++ [.int .i64 (nn : Int)]) ∧ w3.ownsRow base 4 1 cv2 (ko + 1) (xc ++ [.bool false])) ∧ Keeps (fun g => ov.ownBlock = some g ∨ cv.ownBlock = some g) W w3 ∧ Holds w3 rb (rdC bv sv at_ nv ov cv 0 0) 75) else
  ∃ w3, w = (w3.setCell ⟨rb, 4, none⟩ ov2).setCell ⟨rb, 5, none⟩ cv2 ∧ (w3.ownsRow base 3 1 ov2 (ko + 1) (xo ++ [.int .i64 (nn : Int)]) ∧ w3.ownsRow base 4 1 cv2 (ko + 1) (xc ++ [.bool false])) ∧ Keeps (fun g => ov.ownBlock = some g ∨ cv.ownBlock = some g) W w3 ∧ Holds w3 rb (rdC bv sv at_ nv ov cv 0 0) 75
section
variable {base rb at_ nn ko : Nat} {bv sv nv ov cv : Value} {xo xc : List Value} {nB : Nat} {ov2 : Value} {cv2 : Value} {nC : Nat} {W w : World} {l : Array Bool}
theorem NqE.other {j : Nat} (h : NqE base rb at_ nn ko bv sv nv ov cv xo xc nB ov2 cv2 nC W w l) (n0 : j ≠ 12) (n1 : j ≠ 13) (n2 : j ≠ 19) (n3 : j ≠ 22) (n4 : j ≠ 25) : NqE base rb at_ nn ko bv sv nv ov cv xo xc nB ov2 cv2 nC W w (l.setIfInBounds j true) := by
  unfold NqE at h ⊢
  rw [set_other n0, set_other n1, set_other n2, set_other n3, set_other n4]
  exact h
theorem NqE.at0 (h : NqE base rb at_ nn ko bv sv nv ov cv xo xc nB ov2 cv2 nC W w l)  (no : l.getD 12 false = false) : Keeps (fun _ => False) W w := by
  unfold NqE at h
  rw [no, if_pos rfl] at h
  exact h
theorem NqE.to0  (hs : 12 < l.size) (no : l.getD 13 false = false) (h : Keeps (fun _ => False) W w ∧ Holds w nB #[.int .i64 (nn : Int)] 3 ∧ W.heap.size ≤ nB) : NqE base rb at_ nn ko bv sv nv ov cv xo xc nB ov2 cv2 nC W w (l.setIfInBounds 12 true) := by
  unfold NqE
  rw [set_here hs, if_neg (by simp)]
  rw [set_other (show 12 ≠ 13 by decide), no, if_pos rfl]
  exact h
theorem NqE.at1 (h : NqE base rb at_ nn ko bv sv nv ov cv xo xc nB ov2 cv2 nC W w l) (y0 : l.getD 12 false = true) (no : l.getD 13 false = false) : Keeps (fun _ => False) W w ∧ Holds w nB #[.int .i64 (nn : Int)] 3 ∧ W.heap.size ≤ nB := by
  unfold NqE at h
  rw [y0, if_neg (by simp)] at h
  rw [no, if_pos rfl] at h
  exact h
theorem NqE.to1 (y0 : l.getD 12 false = true) (hs : 13 < l.size) (no : l.getD 19 false = false) (h : w.ownsRow base 3 1 ov2 (ko + 1) (xo ++ [.int .i64 (nn : Int)]) ∧ Keeps (fun g => ov.ownBlock = some g) W w ∧ True) : NqE base rb at_ nn ko bv sv nv ov cv xo xc nB ov2 cv2 nC W w (l.setIfInBounds 13 true) := by
  unfold NqE
  rw [set_other (show 13 ≠ 12 by decide), y0, if_neg (by simp)]
  rw [set_here hs, if_neg (by simp)]
  rw [set_other (show 13 ≠ 19 by decide), no, if_pos rfl]
  exact h
theorem NqE.at2 (h : NqE base rb at_ nn ko bv sv nv ov cv xo xc nB ov2 cv2 nC W w l) (y0 : l.getD 12 false = true) (y1 : l.getD 13 false = true) (no : l.getD 19 false = false) : w.ownsRow base 3 1 ov2 (ko + 1) (xo ++ [.int .i64 (nn : Int)]) ∧ Keeps (fun g => ov.ownBlock = some g) W w ∧ True := by
  unfold NqE at h
  rw [y0, if_neg (by simp)] at h
  rw [y1, if_neg (by simp)] at h
  rw [no, if_pos rfl] at h
  exact h
theorem NqE.to2 (y0 : l.getD 12 false = true) (y1 : l.getD 13 false = true) (hs : 19 < l.size) (no : l.getD 22 false = false) (h : (w.ownsRow base 3 1 ov2 (ko + 1) (xo ++ [.int .i64 (nn : Int)]) ∧ w.ownsRow base 4 1 cv2 (ko + 1) (xc ++ [.bool false])) ∧ Keeps (fun g => ov.ownBlock = some g ∨ cv.ownBlock = some g) W w ∧ Holds w rb (rdC bv sv at_ nv ov cv 0 0) 75) : NqE base rb at_ nn ko bv sv nv ov cv xo xc nB ov2 cv2 nC W w (l.setIfInBounds 19 true) := by
  unfold NqE
  rw [set_other (show 19 ≠ 12 by decide), y0, if_neg (by simp)]
  rw [set_other (show 19 ≠ 13 by decide), y1, if_neg (by simp)]
  rw [set_here hs, if_neg (by simp)]
  rw [set_other (show 19 ≠ 22 by decide), no, if_pos rfl]
  exact h
theorem NqE.at3 (h : NqE base rb at_ nn ko bv sv nv ov cv xo xc nB ov2 cv2 nC W w l) (y0 : l.getD 12 false = true) (y1 : l.getD 13 false = true) (y2 : l.getD 19 false = true) (no : l.getD 22 false = false) : (w.ownsRow base 3 1 ov2 (ko + 1) (xo ++ [.int .i64 (nn : Int)]) ∧ w.ownsRow base 4 1 cv2 (ko + 1) (xc ++ [.bool false])) ∧ Keeps (fun g => ov.ownBlock = some g ∨ cv.ownBlock = some g) W w ∧ Holds w rb (rdC bv sv at_ nv ov cv 0 0) 75 := by
  unfold NqE at h
  rw [y0, if_neg (by simp)] at h
  rw [y1, if_neg (by simp)] at h
  rw [y2, if_neg (by simp)] at h
  rw [no, if_pos rfl] at h
  exact h
theorem NqE.to3 (y0 : l.getD 12 false = true) (y1 : l.getD 13 false = true) (y2 : l.getD 19 false = true) (hs : 22 < l.size) (no : l.getD 25 false = false) (h : ∃ w3, w = w3.setCell ⟨rb, 4, none⟩ ov2 ∧ (w3.ownsRow base 3 1 ov2 (ko + 1) (xo ++ [.int .i64 (nn : Int)]) ∧ w3.ownsRow base 4 1 cv2 (ko + 1) (xc ++ [.bool false])) ∧ Keeps (fun g => ov.ownBlock = some g ∨ cv.ownBlock = some g) W w3 ∧ Holds w3 rb (rdC bv sv at_ nv ov cv 0 0) 75) : NqE base rb at_ nn ko bv sv nv ov cv xo xc nB ov2 cv2 nC W w (l.setIfInBounds 22 true) := by
  unfold NqE
  rw [set_other (show 22 ≠ 12 by decide), y0, if_neg (by simp)]
  rw [set_other (show 22 ≠ 13 by decide), y1, if_neg (by simp)]
  rw [set_other (show 22 ≠ 19 by decide), y2, if_neg (by simp)]
  rw [set_here hs, if_neg (by simp)]
  rw [set_other (show 22 ≠ 25 by decide), no, if_pos rfl]
  exact h
theorem NqE.at4 (h : NqE base rb at_ nn ko bv sv nv ov cv xo xc nB ov2 cv2 nC W w l) (y0 : l.getD 12 false = true) (y1 : l.getD 13 false = true) (y2 : l.getD 19 false = true) (y3 : l.getD 22 false = true) (no : l.getD 25 false = false) : ∃ w3, w = w3.setCell ⟨rb, 4, none⟩ ov2 ∧ (w3.ownsRow base 3 1 ov2 (ko + 1) (xo ++ [.int .i64 (nn : Int)]) ∧ w3.ownsRow base 4 1 cv2 (ko + 1) (xc ++ [.bool false])) ∧ Keeps (fun g => ov.ownBlock = some g ∨ cv.ownBlock = some g) W w3 ∧ Holds w3 rb (rdC bv sv at_ nv ov cv 0 0) 75 := by
  unfold NqE at h
  rw [y0, if_neg (by simp)] at h
  rw [y1, if_neg (by simp)] at h
  rw [y2, if_neg (by simp)] at h
  rw [y3, if_neg (by simp)] at h
  rw [no, if_pos rfl] at h
  exact h
theorem NqE.to4 (y0 : l.getD 12 false = true) (y1 : l.getD 13 false = true) (y2 : l.getD 19 false = true) (y3 : l.getD 22 false = true) (hs : 25 < l.size) (h : ∃ w3, w = (w3.setCell ⟨rb, 4, none⟩ ov2).setCell ⟨rb, 5, none⟩ cv2 ∧ (w3.ownsRow base 3 1 ov2 (ko + 1) (xo ++ [.int .i64 (nn : Int)]) ∧ w3.ownsRow base 4 1 cv2 (ko + 1) (xc ++ [.bool false])) ∧ Keeps (fun g => ov.ownBlock = some g ∨ cv.ownBlock = some g) W w3 ∧ Holds w3 rb (rdC bv sv at_ nv ov cv 0 0) 75) : NqE base rb at_ nn ko bv sv nv ov cv xo xc nB ov2 cv2 nC W w (l.setIfInBounds 25 true) := by
  unfold NqE
  rw [set_other (show 25 ≠ 12 by decide), y0, if_neg (by simp)]
  rw [set_other (show 25 ≠ 13 by decide), y1, if_neg (by simp)]
  rw [set_other (show 25 ≠ 19 by decide), y2, if_neg (by simp)]
  rw [set_other (show 25 ≠ 22 by decide), y3, if_neg (by simp)]
  rw [set_here hs, if_neg (by simp)]
  exact h
theorem NqF.ghost0 {nB' : Nat} {j : Nat} {u : Value} (h : NqF base rb at_ nn ko bv sv nv ov cv xo xc nB ov2 cv2 nC j u w) (n0 : j ≠ 12) : NqF base rb at_ nn ko bv sv nv ov cv xo xc nB' ov2 cv2 nC j u w := by
  unfold NqF at *
  split at h
  all_goals first
    | exact h
    | exact absurd rfl n0
theorem NqF.ghost1 {ov2' : Value} {j : Nat} {u : Value} (h : NqF base rb at_ nn ko bv sv nv ov cv xo xc nB ov2 cv2 nC j u w) (n0 : j ≠ 13) : NqF base rb at_ nn ko bv sv nv ov cv xo xc nB ov2' cv2 nC j u w := by
  unfold NqF at *
  split at h
  all_goals first
    | exact h
    | exact absurd rfl n0
theorem NqF.ghost2 {cv2' : Value} {j : Nat} {u : Value} (h : NqF base rb at_ nn ko bv sv nv ov cv xo xc nB ov2 cv2 nC j u w) (n0 : j ≠ 19) : NqF base rb at_ nn ko bv sv nv ov cv xo xc nB ov2 cv2' nC j u w := by
  unfold NqF at *
  split at h
  all_goals first
    | exact h
    | exact absurd rfl n0
theorem NqF.ghostF {nC' : Nat} {j : Nat} {u : Value} (h : NqF base rb at_ nn ko bv sv nv ov cv xo xc nB ov2 cv2 nC j u w) (n0 : j ≠ 18) : NqF base rb at_ nn ko bv sv nv ov cv xo xc nB ov2 cv2 nC' j u w := by
  unfold NqF at *
  split at h
  all_goals first
    | exact h
    | exact absurd rfl n0
theorem NqE.falloc (h : NqE base rb at_ nn ko bv sv nv ov cv xo xc nB ov2 cv2 nC W w l) (no : l.getD 19 false = false) : NqE base rb at_ nn ko bv sv nv ov cv xo xc nB ov2 cv2 nC W (w.alloc (.cells #[.bool false] 4)) l := by
  unfold NqE at h ⊢
  by_cases y0 : l.getD 12 false = false
  · rw [if_pos y0] at h ⊢
    exact h.alloc _
  rw [if_neg y0] at h ⊢
  by_cases y1 : l.getD 13 false = false
  · rw [if_pos y1] at h ⊢
    exact ⟨h.1.alloc _, h.2.1.alloc _, h.2.2⟩
  rw [if_neg y1] at h ⊢
  rw [no, if_pos rfl] at h ⊢
  exact ⟨h.1.alloc _, h.2.1.alloc _, h.2.2⟩
theorem NqF.world {j : Nat} {u : Value} {w' : World} (h : NqF base rb at_ nn ko bv sv nv ov cv xo xc nB ov2 cv2 nC j u w) : NqF base rb at_ nn ko bv sv nv ov cv xo xc nB ov2 cv2 nC j u w' := by
  unfold NqF at *
  split at h
  all_goals exact h
end

set_option maxHeartbeats 8000000 in
set_option maxRecDepth 100000 in
theorem nq_region11 {Q : Exit → Act → World → Prop} (base rb at_ nn ko : Nat) (bv sv nv ov cv : Value) (xo xc : List Value) (W w : World) (A : Act) (hsz : A.tmps.size = 104) (hov : W.ownsRow base 3 1 ov ko xo) (hcv : W.ownsRow base 4 1 cv ko xc) (hno : ko ≤ 1000000) (hnv : ∃ a c, nv = .slice a nn c) (hbase : base ≤ W.heap.size) (hor : ov.ownBlock ≠ some rb) (hcr : cv.ownBlock ≠ some rb) (hoc : ∀ g, cv.ownBlock = some g → ov.ownBlock ≠ some g)
    (a0 : A.tmps.getD 0 undef = .pointer (some ⟨rb, 0, none⟩)) (hC0 : NqC base rb at_ nn ko bv sv nv ov cv xo xc W w) (hE0 : Keeps (fun _ => False) W w)
    (hQ : ∀ c w' (nB : Nat) (ov2 : Value) (cv2 : Value) (nC : Nat), SameBut nqOps A c → (∃ w3, w' = (w3.setCell ⟨rb, 4, none⟩ ov2).setCell ⟨rb, 5, none⟩ cv2 ∧ (w3.ownsRow base 3 1 ov2 (ko + 1) (xo ++ [.int .i64 (nn : Int)]) ∧ w3.ownsRow base 4 1 cv2 (ko + 1) (xc ++ [.bool false])) ∧ Keeps (fun g => ov.ownBlock = some g ∨ cv.ownBlock = some g) W w3 ∧ Holds w3 rb (rdC bv sv at_ nv ov cv 0 0) 75) → Q .normal c w') :
    wpAny Tryz.prog .any nqOps Q nqOps.size (Array.replicate nqOps.size false) A w := by
  refine wpAny_inv2 (fun l c wx => ∃ nB ov2 cv2 nC, RInvF nqOps A (NqF base rb at_ nn ko bv sv nv ov cv xo xc nB ov2 cv2 nC) (fun _ => True) l c wx ∧ (l.getD 22 false = false → NqC base rb at_ nn ko bv sv nv ov cv xo xc W wx) ∧ NqE base rb at_ nn ko bv sv nv ov cv xo xc nB ov2 cv2 nC W wx l ∧ (l.getD 18 false = true → l.getD 19 false = false → Holds wx nC #[.bool false] 4)) nqR ?hend ?hstep _ _ _ _ (by simp) (by simp) ⟨0, .slice none 0 0, .slice none 0 0, 0, RInvF.start trivial, fun _ => hC0, by unfold NqE; rw [if_pos (rep_no _ _)]; exact hE0, fun a => absurd a (by rw [rep_no]; simp)⟩
  case hend =>
    rintro l c wx ⟨nB, ov2, cv2, nC, hI, hC, hE, _⟩ hl
    have hh : ∀ k, k < 26 → l.getD k false = true := fun k hk => hl k (by rw [nqRn]; exact hk)
    have hEm : ∃ w3, wx = (w3.setCell ⟨rb, 4, none⟩ ov2).setCell ⟨rb, 5, none⟩ cv2 ∧ (w3.ownsRow base 3 1 ov2 (ko + 1) (xo ++ [.int .i64 (nn : Int)]) ∧ w3.ownsRow base 4 1 cv2 (ko + 1) (xc ++ [.bool false])) ∧ Keeps (fun g => ov.ownBlock = some g ∨ cv.ownBlock = some g) W w3 ∧ Holds w3 rb (rdC bv sv at_ nv ov cv 0 0) 75 := by
      unfold NqE at hE
      rw [hh 12 (by decide), if_neg (by simp)] at hE
      rw [hh 13 (by decide), if_neg (by simp)] at hE
      rw [hh 19 (by decide), if_neg (by simp)] at hE
      rw [hh 22 (by decide), if_neg (by simp)] at hE
      rw [hh 25 (by decide), if_neg (by simp)] at hE
      exact hE
    exact hQ c wx nB ov2 cv2 nC hI.1.1  hEm
  intro l c wx hIx i' op ho hl hall K' hK'
  obtain ⟨nB, ov2, cv2, nC, hI, hC, hE, hF⟩ := hIx
  have hls : l.size = 26 := by rw [hI.1.2.2.1.1, nqRn]
  have hi' : i' < 26 := by rw [← nqRn]; exact (Array.getElem?_eq_some_iff.1 ho).1
  have ho2 := ho
  simp only [nqOps, regOps, Tryz.f73, Option.getD_some, reduceIte, Nat.reduceEqDiff] at ho
  have s0 := (hI.slot 0 (by kernel_rfl)).trans a0
  have fs := And.intro True.intro True.intro
  simp only [Array.getD_eq_getD_getElem?] at s0
  have hic : i' = 0 ∨ i' = 1 ∨ i' = 2 ∨ i' = 3 ∨ i' = 4 ∨ i' = 5 ∨ i' = 6 ∨ i' = 7 ∨ i' = 8 ∨ i' = 9 ∨ i' = 10 ∨ i' = 11 ∨ i' = 12 ∨ i' = 13 ∨ i' = 14 ∨ i' = 15 ∨ i' = 16 ∨ i' = 17 ∨ i' = 18 ∨ i' = 19 ∨ i' = 20 ∨ i' = 21 ∨ i' = 22 ∨ i' = 23 ∨ i' = 24 ∨ i' = 25 := by omega
  clear hi'
  rcases hic with rfl | rfl | rfl | rfl | rfl | rfl | rfl | rfl | rfl | rfl | rfl | rfl | rfl | rfl | rfl | rfl | rfl | rfl | rfl | rfl | rfl | rfl | rfl | rfl | rfl | rfl
  all_goals cases ho
  · go_simp
    exact hK' _ _ ⟨nB, ov2, cv2, nC, hI.step nqRa 0 66 rfl (by rw [hsz]; decide) _ _ ho2 hall trivial (fun _ _ h => h) rfl, (fun h => hC (listed_set h)), hE.other (by decide) (by decide) (by decide) (by decide) (by decide), fun a b => hF (by rwa [set_other (show 0 ≠ 18 by decide)] at a) (by rwa [set_other (show 0 ≠ 19 by decide)] at b)⟩
  · go_simp
    exact hK' _ _ ⟨nB, ov2, cv2, nC, hI.step nqRa 1 67 rfl (by rw [hsz]; decide) _ _ ho2 hall trivial (fun _ _ h => h) rfl, (fun h => hC (listed_set h)), hE.other (by decide) (by decide) (by decide) (by decide) (by decide), fun a b => hF (by rwa [set_other (show 1 ≠ 18 by decide)] at a) (by rwa [set_other (show 1 ≠ 19 by decide)] at b)⟩
  · go_simp
    exact hK' _ _ ⟨nB, ov2, cv2, nC, hI.step nqRa 2 68 rfl (by rw [hsz]; decide) _ _ ho2 hall trivial (fun _ _ h => h) rfl, (fun h => hC (listed_set h)), hE.other (by decide) (by decide) (by decide) (by decide) (by decide), fun a b => hF (by rwa [set_other (show 2 ≠ 18 by decide)] at a) (by rwa [set_other (show 2 ≠ 19 by decide)] at b)⟩
  · have e2 : c.tmps.getD 68 undef = .pointer (some ⟨rb, 0, none⟩) := hI.fact 2 68 rfl (hI.1.2.2.1.2.yes_far 26 ho2 hall (by decide) (by kernel_rfl))
    have f2 := e2
    simp only [Array.getD_eq_getD_getElem?] at e2
    go_simp
    exact hK' _ _ ⟨nB, ov2, cv2, nC, hI.step nqRa 3 69 rfl (by rw [hsz]; decide) _ _ ho2 hall trivial (fun _ _ h => h) rfl, (fun h => hC (listed_set h)), hE.other (by decide) (by decide) (by decide) (by decide) (by decide), fun a b => hF (by rwa [set_other (show 3 ≠ 18 by decide)] at a) (by rwa [set_other (show 3 ≠ 19 by decide)] at b)⟩
  · have e3 : c.tmps.getD 69 undef = .pointer (some ⟨rb, 0, none⟩) := hI.fact 3 69 rfl (hI.1.2.2.1.2.yes_far 26 ho2 hall (by decide) (by kernel_rfl))
    have f3 := e3
    simp only [Array.getD_eq_getD_getElem?] at e3
    go_simp
    exact hK' _ _ ⟨nB, ov2, cv2, nC, hI.step nqRa 4 70 rfl (by rw [hsz]; decide) _ _ ho2 hall trivial (fun _ _ h => h) rfl, (fun h => hC (listed_set h)), hE.other (by decide) (by decide) (by decide) (by decide) (by decide), fun a b => hF (by rwa [set_other (show 4 ≠ 18 by decide)] at a) (by rwa [set_other (show 4 ≠ 19 by decide)] at b)⟩
  · have e4 : c.tmps.getD 70 undef = .pointer (some ⟨rb, 4, none⟩) := hI.fact 4 70 rfl (hI.1.2.2.1.2.yes_far 26 ho2 hall (by decide) (by kernel_rfl))
    have f4 := e4
    simp only [Array.getD_eq_getD_getElem?] at e4
    have hc := hC (hI.1.2.2.1.2.no_far 26 hl (by kernel_rfl : farB nqOps 26 22 5 = true))
    have x0 := hc.cell 4
    go_simp
    exact hK' _ _ ⟨nB, ov2, cv2, nC, hI.step nqRa 5 71 rfl (by rw [hsz]; decide) _ _ ho2 hall trivial (fun _ _ h => h) rfl, (fun h => hC (listed_set h)), hE.other (by decide) (by decide) (by decide) (by decide) (by decide), fun a b => hF (by rwa [set_other (show 5 ≠ 18 by decide)] at a) (by rwa [set_other (show 5 ≠ 19 by decide)] at b)⟩
  · go_simp
    exact hK' _ _ ⟨nB, ov2, cv2, nC, hI.step nqRa 6 72 rfl (by rw [hsz]; decide) _ _ ho2 hall trivial (fun _ _ h => h) rfl, (fun h => hC (listed_set h)), hE.other (by decide) (by decide) (by decide) (by decide) (by decide), fun a b => hF (by rwa [set_other (show 6 ≠ 18 by decide)] at a) (by rwa [set_other (show 6 ≠ 19 by decide)] at b)⟩
  · have e6 : c.tmps.getD 72 undef = .pointer (some ⟨rb, 0, none⟩) := hI.fact 6 72 rfl (hI.1.2.2.1.2.yes_far 26 ho2 hall (by decide) (by kernel_rfl))
    have f6 := e6
    simp only [Array.getD_eq_getD_getElem?] at e6
    go_simp
    exact hK' _ _ ⟨nB, ov2, cv2, nC, hI.step nqRa 7 73 rfl (by rw [hsz]; decide) _ _ ho2 hall trivial (fun _ _ h => h) rfl, (fun h => hC (listed_set h)), hE.other (by decide) (by decide) (by decide) (by decide) (by decide), fun a b => hF (by rwa [set_other (show 7 ≠ 18 by decide)] at a) (by rwa [set_other (show 7 ≠ 19 by decide)] at b)⟩
  · have e7 : c.tmps.getD 73 undef = .pointer (some ⟨rb, 0, none⟩) := hI.fact 7 73 rfl (hI.1.2.2.1.2.yes_far 26 ho2 hall (by decide) (by kernel_rfl))
    have f7 := e7
    simp only [Array.getD_eq_getD_getElem?] at e7
    go_simp
    exact hK' _ _ ⟨nB, ov2, cv2, nC, hI.step nqRa 8 74 rfl (by rw [hsz]; decide) _ _ ho2 hall trivial (fun _ _ h => h) rfl, (fun h => hC (listed_set h)), hE.other (by decide) (by decide) (by decide) (by decide) (by decide), fun a b => hF (by rwa [set_other (show 8 ≠ 18 by decide)] at a) (by rwa [set_other (show 8 ≠ 19 by decide)] at b)⟩
  · have e8 : c.tmps.getD 74 undef = .pointer (some ⟨rb, 3, none⟩) := hI.fact 8 74 rfl (hI.1.2.2.1.2.yes_far 26 ho2 hall (by decide) (by kernel_rfl))
    have f8 := e8
    simp only [Array.getD_eq_getD_getElem?] at e8
    go_simp
    exact hK' _ _ ⟨nB, ov2, cv2, nC, hI.step nqRa 9 75 rfl (by rw [hsz]; decide) _ _ ho2 hall trivial (fun _ _ h => h) rfl, (fun h => hC (listed_set h)), hE.other (by decide) (by decide) (by decide) (by decide) (by decide), fun a b => hF (by rwa [set_other (show 9 ≠ 18 by decide)] at a) (by rwa [set_other (show 9 ≠ 19 by decide)] at b)⟩
  · have e9 : c.tmps.getD 75 undef = .pointer (some ⟨rb, 3, none⟩) := hI.fact 9 75 rfl (hI.1.2.2.1.2.yes_far 26 ho2 hall (by decide) (by kernel_rfl))
    have f9 := e9
    simp only [Array.getD_eq_getD_getElem?] at e9
    have hc := hC (hI.1.2.2.1.2.no_far 26 hl (by kernel_rfl : farB nqOps 26 22 10 = true))
    have x0 := hc.cell 3
    go_simp
    exact hK' _ _ ⟨nB, ov2, cv2, nC, hI.step nqRa 10 76 rfl (by rw [hsz]; decide) _ _ ho2 hall trivial (fun _ _ h => h) rfl, (fun h => hC (listed_set h)), hE.other (by decide) (by decide) (by decide) (by decide) (by decide), fun a b => hF (by rwa [set_other (show 10 ≠ 18 by decide)] at a) (by rwa [set_other (show 10 ≠ 19 by decide)] at b)⟩
  · have e10 : c.tmps.getD 76 undef = nv := hI.fact 10 76 rfl (hI.1.2.2.1.2.yes_far 26 ho2 hall (by decide) (by kernel_rfl))
    have f10 := e10
    simp only [Array.getD_eq_getD_getElem?] at e10
    have hc := hC (hI.1.2.2.1.2.no_far 26 hl (by kernel_rfl : farB nqOps 26 22 11 = true))
    obtain ⟨na, nc, rfl⟩ := hnv
    go_simp
    exact hK' _ _ ⟨nB, ov2, cv2, nC, hI.step nqRa 11 77 rfl (by rw [hsz]; decide) _ _ ho2 hall trivial (fun _ _ h => h) rfl, (fun h => hC (listed_set h)), hE.other (by decide) (by decide) (by decide) (by decide) (by decide), fun a b => hF (by rwa [set_other (show 11 ≠ 18 by decide)] at a) (by rwa [set_other (show 11 ≠ 19 by decide)] at b)⟩
  · have e11 : c.tmps.getD 77 undef = .int .i64 (nn : Int) := hI.fact 11 77 rfl (hI.1.2.2.1.2.yes_far 26 ho2 hall (by decide) (by kernel_rfl))
    have f11 := e11
    simp only [Array.getD_eq_getD_getElem?] at e11
    have hc := hC (hI.1.2.2.1.2.no_far 26 hl (by kernel_rfl : farB nqOps 26 22 12 = true))
    have hp := hE.at0  hl
    have un := hI.1.2.2.1.2.no_far 26 hl (by kernel_rfl : farB nqOps 26 13 12 = true)
    have hf0 := hF
    have hp2 : Keeps (fun _ => False) W (wx.alloc (.cells #[.int .i64 (nn : Int)] 3)) ∧ Holds (wx.alloc (.cells #[.int .i64 (nn : Int)] 3)) wx.heap.size #[.int .i64 (nn : Int)] 3 ∧ W.heap.size ≤ wx.heap.size := ⟨hp.alloc _, Holds.new _ _ _, hp.size⟩
    have hc2 : NqC base rb at_ nn ko bv sv nv ov cv xo xc W (wx.alloc (.cells #[.int .i64 (nn : Int)] 3)) := Holds.alloc hc _
    have hfk : Holds wx nC #[.bool false] 4 → Holds (wx.alloc (.cells #[.int .i64 (nn : Int)] 3)) nC #[.bool false] 4 := fun h => h.alloc _
    go_simp
    have hJ : RInvF nqOps A (NqF base rb at_ nn ko bv sv nv ov cv xo xc (wx.heap.size) ov2 cv2 nC) (fun _ => True) l c wx := ⟨hI.1.other (fun j hj u hF => NqF.ghost0 hF (yes_no hj hl)), hI.2⟩
    exact hK' _ _ ⟨wx.heap.size, _, _, _, hJ.step nqRa 12 78 rfl (by rw [hsz]; decide) _ _ ho2 hall trivial (fun _ _ h => NqF.world h) rfl, fun _ => hc2, NqE.to0  (by rw [hls]; decide) un hp2, fun a b => hfk (hf0 (by rwa [set_other (show 12 ≠ 18 by decide)] at a) (by rwa [set_other (show 12 ≠ 19 by decide)] at b))⟩
  · have e5 : c.tmps.getD 71 undef = ov := hI.fact 5 71 rfl (hI.1.2.2.1.2.yes_far 26 ho2 hall (by decide) (by kernel_rfl))
    have f5 := e5
    simp only [Array.getD_eq_getD_getElem?] at e5
    have e12 : c.tmps.getD 78 undef = .slice (some ⟨nB, 0, none⟩) 1 1 := hI.fact 12 78 rfl (hI.1.2.2.1.2.yes_far 26 ho2 hall (by decide) (by kernel_rfl))
    have f12 := e12
    simp only [Array.getD_eq_getD_getElem?] at e12
    have hc := hC (hI.1.2.2.1.2.no_far 26 hl (by kernel_rfl : farB nqOps 26 22 13 = true))
    have y0 : l.getD 12 false = true := hI.1.2.2.1.2.yes_far 26 ho2 hall (by decide) (by kernel_rfl)
    have hp := hE.at1 y0 hl
    have un := hI.1.2.2.1.2.no_far 26 hl (by kernel_rfl : farB nqOps 26 19 13 = true)
    have hf0 := hF
    obtain ⟨hp0, hpB, hpN⟩ := hp
    obtain ⟨i1, hi, hz0, hz1, hz2⟩ := info_parts infoInt8
    have hro := ownsRow_keeps hov hp0 (fun _ _ e => e)
    refine step_append_src wx rfl (.tmp 71) (.tmp 78) 22 22 rfl base 3 i1 _ 1 8 Tryz.underlying22 hi hz0 hz1 hz2 rfl ov ko xo (by exact f5) hro _ (by exact f12) 1 [.int .i64 (nn : Int)] (int_src hpB) (by unfold maxLen; omega) (by omega) (Nat.le_trans hbase hp0.size) ?_
    intro v3 w2 hown hgrow hat
    have hG2 : Grew wx w2 ov v3 := Grew.of hgrow hat
    have hp2 : w2.ownsRow base 3 1 v3 (ko + 1) (xo ++ [.int .i64 (nn : Int)]) ∧ Keeps (fun g => ov.ownBlock = some g) W w2 ∧ True := ⟨hown, (hp0.mono (S := fun g => ov.ownBlock = some g) (fun _ _ e => e.elim)).trans hG2.1 (fun _ _ e => e), trivial⟩
    have hc2 : NqC base rb at_ nn ko bv sv nv ov cv xo xc W w2 := Holds.keeps hc hG2.1 hor
    have hfk : Holds wx nC #[.bool false] 4 → Holds w2 nC #[.bool false] 4 := fun h => h.keeps hG2.1 (owns_ne_holds hro h (by decide))
    have hJ : RInvF nqOps A (NqF base rb at_ nn ko bv sv nv ov cv xo xc nB (v3) cv2 nC) (fun _ => True) l c wx := ⟨hI.1.other (fun j hj u hF => NqF.ghost1 hF (yes_no hj hl)), hI.2⟩
    exact hK' _ _ ⟨_, v3, _, _, hJ.step nqRa 13 79 rfl (by rw [hsz]; decide) _ _ ho2 hall trivial (fun _ _ h => NqF.world h) rfl, fun _ => hc2, NqE.to1 y0 (by rw [hls]; decide) un hp2, fun a b => hfk (hf0 (by rwa [set_other (show 13 ≠ 18 by decide)] at a) (by rwa [set_other (show 13 ≠ 19 by decide)] at b))⟩
  · go_simp
    exact hK' _ _ ⟨nB, ov2, cv2, nC, hI.step nqRa 14 80 rfl (by rw [hsz]; decide) _ _ ho2 hall trivial (fun _ _ h => h) rfl, (fun h => hC (listed_set h)), hE.other (by decide) (by decide) (by decide) (by decide) (by decide), fun a b => hF (by rwa [set_other (show 14 ≠ 18 by decide)] at a) (by rwa [set_other (show 14 ≠ 19 by decide)] at b)⟩
  · have e14 : c.tmps.getD 80 undef = .pointer (some ⟨rb, 0, none⟩) := hI.fact 14 80 rfl (hI.1.2.2.1.2.yes_far 26 ho2 hall (by decide) (by kernel_rfl))
    have f14 := e14
    simp only [Array.getD_eq_getD_getElem?] at e14
    go_simp
    exact hK' _ _ ⟨nB, ov2, cv2, nC, hI.step nqRa 15 81 rfl (by rw [hsz]; decide) _ _ ho2 hall trivial (fun _ _ h => h) rfl, (fun h => hC (listed_set h)), hE.other (by decide) (by decide) (by decide) (by decide) (by decide), fun a b => hF (by rwa [set_other (show 15 ≠ 18 by decide)] at a) (by rwa [set_other (show 15 ≠ 19 by decide)] at b)⟩
  · have e15 : c.tmps.getD 81 undef = .pointer (some ⟨rb, 0, none⟩) := hI.fact 15 81 rfl (hI.1.2.2.1.2.yes_far 26 ho2 hall (by decide) (by kernel_rfl))
    have f15 := e15
    simp only [Array.getD_eq_getD_getElem?] at e15
    go_simp
    exact hK' _ _ ⟨nB, ov2, cv2, nC, hI.step nqRa 16 82 rfl (by rw [hsz]; decide) _ _ ho2 hall trivial (fun _ _ h => h) rfl, (fun h => hC (listed_set h)), hE.other (by decide) (by decide) (by decide) (by decide) (by decide), fun a b => hF (by rwa [set_other (show 16 ≠ 18 by decide)] at a) (by rwa [set_other (show 16 ≠ 19 by decide)] at b)⟩
  · have e16 : c.tmps.getD 82 undef = .pointer (some ⟨rb, 5, none⟩) := hI.fact 16 82 rfl (hI.1.2.2.1.2.yes_far 26 ho2 hall (by decide) (by kernel_rfl))
    have f16 := e16
    simp only [Array.getD_eq_getD_getElem?] at e16
    have hc := hC (hI.1.2.2.1.2.no_far 26 hl (by kernel_rfl : farB nqOps 26 22 17 = true))
    have x0 := hc.cell 5
    go_simp
    exact hK' _ _ ⟨nB, ov2, cv2, nC, hI.step nqRa 17 83 rfl (by rw [hsz]; decide) _ _ ho2 hall trivial (fun _ _ h => h) rfl, (fun h => hC (listed_set h)), hE.other (by decide) (by decide) (by decide) (by decide) (by decide), fun a b => hF (by rwa [set_other (show 17 ≠ 18 by decide)] at a) (by rwa [set_other (show 17 ≠ 19 by decide)] at b)⟩
  · have un := hI.1.2.2.1.2.no_far 26 hl (by kernel_rfl : farB nqOps 26 19 18 = true)
    go_simp
    have hJ : RInvF nqOps A (NqF base rb at_ nn ko bv sv nv ov cv xo xc nB ov2 cv2 (wx.heap.size)) (fun _ => True) l c wx := ⟨hI.1.other (fun j hj u hF => NqF.ghostF hF (yes_no hj hl)), hI.2⟩
    exact hK' _ _ ⟨_, _, _, _, hJ.step nqRa 18 84 rfl (by rw [hsz]; decide) _ _ ho2 hall trivial (fun _ _ h => NqF.world h) rfl, (fun h => Holds.alloc (hC (listed_set h)) _), (hE.falloc un).other (by decide) (by decide) (by decide) (by decide) (by decide), fun _ _ => Holds.new _ _ _⟩
  · have e17 : c.tmps.getD 83 undef = cv := hI.fact 17 83 rfl (hI.1.2.2.1.2.yes_far 26 ho2 hall (by decide) (by kernel_rfl))
    have f17 := e17
    simp only [Array.getD_eq_getD_getElem?] at e17
    have e18 : c.tmps.getD 84 undef = .slice (some ⟨nC, 0, none⟩) 1 1 := hI.fact 18 84 rfl (hI.1.2.2.1.2.yes_far 26 ho2 hall (by decide) (by kernel_rfl))
    have f18 := e18
    simp only [Array.getD_eq_getD_getElem?] at e18
    have hc := hC (hI.1.2.2.1.2.no_far 26 hl (by kernel_rfl : farB nqOps 26 22 19 = true))
    have y0 : l.getD 12 false = true := hI.1.2.2.1.2.yes_far 26 ho2 hall (by decide) (by kernel_rfl)
    have y1 : l.getD 13 false = true := hI.1.2.2.1.2.yes_far 26 ho2 hall (by decide) (by kernel_rfl)
    have hp := hE.at2 y0 y1 hl
    have un := hI.1.2.2.1.2.no_far 26 hl (by kernel_rfl : farB nqOps 26 22 19 = true)
    have hf := hF (hI.1.2.2.1.2.yes_far 26 ho2 hall (by decide) (by kernel_rfl)) hl
    obtain ⟨hp0, hpK, _⟩ := hp
    obtain ⟨i1, hi, hz0, hz1, hz2⟩ := info_parts infoBool1
    have hrc := ownsRow_keeps hcv hpK (fun g hg e => hoc g hg e)
    refine step_append_src wx rfl (.tmp 83) (.tmp 84) 73 73 rfl base 4 i1 _ 1 1 Tryz.underlying73 hi hz0 hz1 hz2 rfl cv ko xc (by exact f17) hrc _ (by exact f18) 1 [.bool false] (bool_src hf) (by unfold maxLen; omega) (by omega) (Nat.le_trans hbase hpK.size) ?_
    intro v4 w2 hown hgrow hat
    have hG2 : Grew wx w2 cv v4 := Grew.of hgrow hat
    have hro2 := ownsRow_keeps hp0 hG2.1 (fun g hg e => by obtain ⟨_, cu, hcu⟩ := owned_holds hrc e; exact owns_ne_holds hp0 hcu (by decide) hg)
    have hc2 : NqC base rb at_ nn ko bv sv nv ov cv xo xc W w2 := Holds.keeps hc hG2.1 hcr
    have hp2 : (w2.ownsRow base 3 1 ov2 (ko + 1) (xo ++ [.int .i64 (nn : Int)]) ∧ w2.ownsRow base 4 1 v4 (ko + 1) (xc ++ [.bool false])) ∧ Keeps (fun g => ov.ownBlock = some g ∨ cv.ownBlock = some g) W w2 ∧ Holds w2 rb (rdC bv sv at_ nv ov cv 0 0) 75 := ⟨⟨hro2, hown⟩, (hpK.mono (S := fun g => ov.ownBlock = some g ∨ cv.ownBlock = some g) (fun _ _ e => .inl e)).trans hG2.1 (fun _ _ e => .inr e), hc2⟩
    have hJ : RInvF nqOps A (NqF base rb at_ nn ko bv sv nv ov cv xo xc nB ov2 (v4) nC) (fun _ => True) l c wx := ⟨hI.1.other (fun j hj u hF => NqF.ghost2 hF (yes_no hj hl)), hI.2⟩
    exact hK' _ _ ⟨_, _, v4, _, hJ.step nqRa 19 85 rfl (by rw [hsz]; decide) _ _ ho2 hall trivial (fun _ _ h => NqF.world h) rfl, fun _ => hc2, NqE.to2 y0 y1 (by rw [hls]; decide) un hp2, fun _ b => absurd b (by rw [set_here (by rw [hls]; decide)]; simp)⟩
  · have e0 : c.tmps.getD 66 undef = .pointer (some ⟨rb, 0, none⟩) := hI.fact 0 66 rfl (hI.1.2.2.1.2.yes_far 26 ho2 hall (by decide) (by kernel_rfl))
    have f0 := e0
    simp only [Array.getD_eq_getD_getElem?] at e0
    go_simp
    exact hK' _ _ ⟨nB, ov2, cv2, nC, hI.step nqRa 20 86 rfl (by rw [hsz]; decide) _ _ ho2 hall trivial (fun _ _ h => h) rfl, (fun h => hC (listed_set h)), hE.other (by decide) (by decide) (by decide) (by decide) (by decide), fun a b => hF (by rwa [set_other (show 20 ≠ 18 by decide)] at a) (by rwa [set_other (show 20 ≠ 19 by decide)] at b)⟩
  · have e20 : c.tmps.getD 86 undef = .pointer (some ⟨rb, 0, none⟩) := hI.fact 20 86 rfl (hI.1.2.2.1.2.yes_far 26 ho2 hall (by decide) (by kernel_rfl))
    have f20 := e20
    simp only [Array.getD_eq_getD_getElem?] at e20
    go_simp
    exact hK' _ _ ⟨nB, ov2, cv2, nC, hI.step nqRa 21 87 rfl (by rw [hsz]; decide) _ _ ho2 hall trivial (fun _ _ h => h) rfl, (fun h => hC (listed_set h)), hE.other (by decide) (by decide) (by decide) (by decide) (by decide), fun a b => hF (by rwa [set_other (show 21 ≠ 18 by decide)] at a) (by rwa [set_other (show 21 ≠ 19 by decide)] at b)⟩
  · have e13 : c.tmps.getD 79 undef = ov2 := hI.fact 13 79 rfl (hI.1.2.2.1.2.yes_far 26 ho2 hall (by decide) (by kernel_rfl))
    have f13 := e13
    simp only [Array.getD_eq_getD_getElem?] at e13
    have e21 : c.tmps.getD 87 undef = .pointer (some ⟨rb, 4, none⟩) := hI.fact 21 87 rfl (hI.1.2.2.1.2.yes_far 26 ho2 hall (by decide) (by kernel_rfl))
    have f21 := e21
    simp only [Array.getD_eq_getD_getElem?] at e21
    have hc := hC (hI.1.2.2.1.2.no_far 26 hl (by kernel_rfl : farB nqOps 26 22 22 = true))
    have y0 : l.getD 12 false = true := hI.1.2.2.1.2.yes_far 26 ho2 hall (by decide) (by kernel_rfl)
    have y1 : l.getD 13 false = true := hI.1.2.2.1.2.yes_far 26 ho2 hall (by decide) (by kernel_rfl)
    have y2 : l.getD 19 false = true := hI.1.2.2.1.2.yes_far 26 ho2 hall (by decide) (by kernel_rfl)
    have hp := hE.at3 y0 y1 y2 hl
    have un := hI.1.2.2.1.2.no_far 26 hl (by kernel_rfl : farB nqOps 26 25 22 = true)
    obtain ⟨a2, c2, rfl⟩ := row_slice hp.1.1
    have x0 := hp.2.2.cell 4
    have x1 := hp.2.2.free 4
    have x2 := hp.2.2.lt
    go_simp
    have hp2 := (⟨_, rfl, hp⟩ : ∃ w3, wx.setCell ⟨rb, 4, none⟩ (.slice a2 (ko + 1) c2) = w3.setCell ⟨rb, 4, none⟩ (.slice a2 (ko + 1) c2) ∧ (w3.ownsRow base 3 1 (.slice a2 (ko + 1) c2) (ko + 1) (xo ++ [.int .i64 (nn : Int)]) ∧ w3.ownsRow base 4 1 cv2 (ko + 1) (xc ++ [.bool false])) ∧ Keeps (fun g => ov.ownBlock = some g ∨ cv.ownBlock = some g) W w3 ∧ Holds w3 rb (rdC bv sv at_ nv ov cv 0 0) 75)
    exact hK' _ _ ⟨_, _, _, _, hI.stepN 22 rfl _ ho2 hall trivial (fun _ _ h => NqF.world h) trivial, fun h => absurd h (by rw [set_here (by rw [hls]; decide)]; simp), NqE.to3 y0 y1 y2 (by rw [hls]; decide) un hp2, fun _ b => absurd b (by rw [set_other (show 22 ≠ 19 by decide), y2]; simp)⟩
  · have e1 : c.tmps.getD 67 undef = .pointer (some ⟨rb, 0, none⟩) := hI.fact 1 67 rfl (hI.1.2.2.1.2.yes_far 26 ho2 hall (by decide) (by kernel_rfl))
    have f1 := e1
    simp only [Array.getD_eq_getD_getElem?] at e1
    go_simp
    exact hK' _ _ ⟨nB, ov2, cv2, nC, hI.step nqRa 23 88 rfl (by rw [hsz]; decide) _ _ ho2 hall trivial (fun _ _ h => h) rfl, (fun h => hC (listed_set h)), hE.other (by decide) (by decide) (by decide) (by decide) (by decide), fun a b => hF (by rwa [set_other (show 23 ≠ 18 by decide)] at a) (by rwa [set_other (show 23 ≠ 19 by decide)] at b)⟩
  · have e23 : c.tmps.getD 88 undef = .pointer (some ⟨rb, 0, none⟩) := hI.fact 23 88 rfl (hI.1.2.2.1.2.yes_far 26 ho2 hall (by decide) (by kernel_rfl))
    have f23 := e23
    simp only [Array.getD_eq_getD_getElem?] at e23
    go_simp
    exact hK' _ _ ⟨nB, ov2, cv2, nC, hI.step nqRa 24 89 rfl (by rw [hsz]; decide) _ _ ho2 hall trivial (fun _ _ h => h) rfl, (fun h => hC (listed_set h)), hE.other (by decide) (by decide) (by decide) (by decide) (by decide), fun a b => hF (by rwa [set_other (show 24 ≠ 18 by decide)] at a) (by rwa [set_other (show 24 ≠ 19 by decide)] at b)⟩
  · have e19 : c.tmps.getD 85 undef = cv2 := hI.fact 19 85 rfl (hI.1.2.2.1.2.yes_far 26 ho2 hall (by decide) (by kernel_rfl))
    have f19 := e19
    simp only [Array.getD_eq_getD_getElem?] at e19
    have e24 : c.tmps.getD 89 undef = .pointer (some ⟨rb, 5, none⟩) := hI.fact 24 89 rfl (hI.1.2.2.1.2.yes_far 26 ho2 hall (by decide) (by kernel_rfl))
    have f24 := e24
    simp only [Array.getD_eq_getD_getElem?] at e24

    have y0 : l.getD 12 false = true := hI.1.2.2.1.2.yes_far 26 ho2 hall (by decide) (by kernel_rfl)
    have y1 : l.getD 13 false = true := hI.1.2.2.1.2.yes_far 26 ho2 hall (by decide) (by kernel_rfl)
    have y2 : l.getD 19 false = true := hI.1.2.2.1.2.yes_far 26 ho2 hall (by decide) (by kernel_rfl)
    have y3 : l.getD 22 false = true := hI.1.2.2.1.2.yes_far 26 ho2 hall (by decide) (by kernel_rfl)
    have hp := hE.at4 y0 y1 y2 y3 hl
    obtain ⟨w3, hw3, hq⟩ := hp
    obtain ⟨a2, c2, rfl⟩ := row_slice hq.1.2
    have hst := hq.2.2.set 4 ov2
    rw [← hw3] at hst
    have x0 := hst.cell 5
    have x1 := hst.free 5
    have x2 := hst.lt
    have HW3 := Lib.hid hw3
    clear hw3
    go_simp
    have hp2 : ∃ w3, wx.setCell ⟨rb, 5, none⟩ (.slice a2 (ko + 1) c2) = (w3.setCell ⟨rb, 4, none⟩ ov2).setCell ⟨rb, 5, none⟩ (.slice a2 (ko + 1) c2) ∧ (w3.ownsRow base 3 1 ov2 (ko + 1) (xo ++ [.int .i64 (nn : Int)]) ∧ w3.ownsRow base 4 1 (.slice a2 (ko + 1) c2) (ko + 1) (xc ++ [.bool false])) ∧ Keeps (fun g => ov.ownBlock = some g ∨ cv.ownBlock = some g) W w3 ∧ Holds w3 rb (rdC bv sv at_ nv ov cv 0 0) 75 := ⟨w3, by rw [← HW3.out], hq⟩
    exact hK' _ _ ⟨_, _, _, _, hI.stepN 25 rfl _ ho2 hall trivial (fun _ _ h => NqF.world h) trivial, fun h => absurd h (by rw [set_other (show 25 ≠ 22 by decide), y3]; simp), NqE.to4 y0 y1 y2 y3 (by rw [hls]; decide) hp2, fun _ b => absurd b (by rw [set_other (show 25 ≠ 19 by decide), y2]; simp)⟩
end Go.Proofs.YtofhcgbihonckaaGreatDoor

namespace Go.Proofs.YtofhcgbihonckaaGreatDoor
open Go.RowKit Go.ChangeMaps

theorem TreeS.shape {w : World} {base : Nat} {v : Value} {T : List NodeT} (h : TreeS w base v T) : ∃ a c, v = .slice a T.length c := by
  obtain ⟨_, pvs, q1, q2, _⟩ := h; exact row_slice q2
set_option maxRecDepth 100000 in
set_option maxHeartbeats 8000000 in
theorem blob_node (rb base : Nat) (ba : Option Addr) (bc : Nat) (sv : Value) (b s : List UInt8) (st : RdS) (nv ov cv : Value) (w : World) (h : RdAt w rb base (.slice ba b.length bc) sv st nv ov cv)
    (hi : RdIn w rb base (.slice ba b.length bc) sv b s) (ha4 : 4 ≤ st.at_) (ha : st.at_ ≤ b.length) (hn : st.nodes.length ≤ 120) (hol : st.opn.length ≤ 100) (hcl : st.child.length = st.opn.length) (hox : ∀ o ∈ st.opn, o ≤ 120) :
    Calls Tryz.prog 73 #[.pointer (some ⟨rb, 0, none⟩)] w (StPost rb base (.slice ba b.length bc) sv (nodeR b st) w) := by
  obtain ⟨na, nc, rfl⟩ := h.2.1.shape
  obtain ⟨oa, oc, rfl⟩ := row_slice h.2.2.1
  obtain ⟨ca, cc, rfl⟩ := row_slice h.2.2.2
  have hgne : ∀ x, Value.ownBlock (.slice ba b.length bc) = some x → x ≠ rb := fun x hg => by have := hi.bel x hg; have := hi.rb; omega
  have x2 : w.cell? ⟨rb, 2, none⟩ = some (.int .i64 st.at_) := h.1.cell 2
  have x3 : w.cell? ⟨rb, 3, none⟩ = some (.slice na st.nodes.length nc) := h.1.cell 3
  have x4 : w.cell? ⟨rb, 4, none⟩ = some (.slice oa st.opn.length oc) := h.1.cell 4
  have hl := h.1.lt
  have htx := blob_text rb ba bc sv st.at_ (.slice na st.nodes.length nc) (.slice oa st.opn.length oc) (.slice ca st.child.length cc) b w h.1 hi.bat hgne (by have := hi.bl; omega) hi.b0 ha
  have hfl := blob_fail rb (.slice ba b.length bc) sv st.at_ (.slice na st.nodes.length nc) (.slice oa st.opn.length oc) (.slice ca st.child.length cc) 0 ((st.at_ : Int) - 4) 3 w h.1
  have hbl := hi.bl
  have HH := Lib.hid h
  have HI := Lib.hid hi
  have HOX := Lib.hid hox
  have HCL := Lib.hid hcl
  clear h hi hox
  obtain ⟨i0, hi0⟩ : ∃ i0, i0 = st.at_ := ⟨_, rfl⟩
  obtain ⟨nn, hnn⟩ : ∃ nn, nn = st.nodes.length := ⟨_, rfl⟩
  obtain ⟨no, hno⟩ : ∃ no, no = st.opn.length := ⟨_, rfl⟩
  have HI0 := Lib.hid hi0
  have HNN := Lib.hid hnn
  have HNO := Lib.hid hno
  rw [← hi0] at x2 ha ha4 htx hfl
  rw [← hnn] at x3 hn htx hfl
  rw [← hno] at x4 hol hcl htx hfl
  rw [hcl] at htx hfl
  have j4 : IntKind.i64.wrap ((i0 : Int) - 4) = (i0 : Int) - 4 := IntWalk.i64_in _ (by omega)
  clear hi0 hnn hno hcl
  by_cases c1 : nn = 120 ∨ 8 < no
  · have hp := Lib.hid (show nodeR b st = .error (i0 - 4, 3) from by unfold nodeR; rw [← HNN.out, ← HNO.out, if_pos c1, ← HI0.out])
    have HFL := Lib.hid hfl
    clear hfl htx
    by_cases c2 : nn = 120
    · have d1 : ((nn : Int) == 120) = true := by rw [c2]; rfl
      have C2 := Lib.hid c2
      clear c1 c2
      go_enter Tryz.func73, Tryz.ntmps73
      go_wp2_with fail
      refine (by exact HFL.out : Calls _ _ _ _ _).mono ?_
      rintro e w2 ⟨rfl, hH, hK⟩
      go_wp2_with fail
      go_ret
      rw [hp.out]
      exact ⟨HI.out.turn2 hK, rfl, _, _, _, _, by rw [show ((i0 - 4 : Nat) : Int) = (i0 : Int) - 4 by omega]; exact hH⟩
    · have d1 : ((nn : Int) == 120) = false := by rw [beq_eq_false_iff_ne]; omega
      have d2 : decide ((8 : Int) < (no : Int)) = true := by simp; omega
      have d2' : decide (8 < no) = true := by simp; omega
      clear c1 c2
      go_enter Tryz.func73, Tryz.ntmps73
      go_wp2_with fail
      refine (by exact HFL.out : Calls _ _ _ _ _).mono ?_
      rintro e w2 ⟨rfl, hH, hK⟩
      go_wp2_with fail
      go_ret
      rw [hp.out]
      exact ⟨HI.out.turn2 hK, rfl, _, _, _, _, by rw [show ((i0 - 4 : Nat) : Int) = (i0 : Int) - 4 by omega]; exact hH⟩
  · have d1 : ((nn : Int) == 120) = false := by rw [beq_eq_false_iff_ne]; omega
    have d2 : decide ((8 : Int) < (no : Int)) = false := by simp; omega
    have d2' : decide (8 < no) = false := by simp; omega
    have hp1 := Lib.hid (show nodeR b st = (match textR b i0 with
      | .error e => .error e
      | .ok (t, j) => .ok ⟨j, st.nodes ++ [⟨parentR st, ⟨t.toArray⟩, []⟩], st.nodes.length :: st.opn, false :: markR st.child⟩) from by unfold nodeR; rw [← HNN.out, ← HNO.out, if_neg c1, ← HI0.out]; cases textR b i0 <;> rfl)
    have hno8 : no ≤ 8 := by omega
    have hnn8 : nn < 120 := by omega
    clear c1 hfl
    have hp2 := hp1.out
    have htl : ∀ t j, textR b i0 = .ok (t, j) → t.length ≤ b.length := fun t j e => by
      unfold textR at e
      simp only [] at e
      repeat' split at e
      all_goals cases e
      have := upto_le (b.drop i0); rw [List.length_drop] at this; omega
    generalize textR b i0 = R at htx hp2 htl
    cases R with
    | error pe =>
      obtain ⟨p, er⟩ := pe
      have hp := Lib.hid (show nodeR b st = .error (p, er) from hp2)
      have HTX := Lib.hid htx
      clear htx hp2 htl
      go_enter Tryz.func73, Tryz.ntmps73
      go_wp2_with fail
      refine (by exact HTX.out : Calls _ _ _ _ _).mono ?_
      rintro e w2 ⟨hK, rfl, a, hH⟩
      go_wp2_with fail
      go_ret
      rw [hp.out]
      exact ⟨HI.out.turn2 hK, rfl, _, _, _, _, hH⟩
    | ok tj =>
      obtain ⟨t, j⟩ := tj
      have hp := Lib.hid (show nodeR b st = .ok ⟨j, st.nodes ++ [⟨parentR st, ⟨t.toArray⟩, []⟩], st.nodes.length :: st.opn, false :: markR st.child⟩ from hp2)
      have htl2 := htl t j rfl
      have HTX := Lib.hid htx
      clear htx hp2 htl
      go_enter Tryz.func73, Tryz.ntmps73
      go_wp2_with fail
      refine (by exact HTX.out : Calls _ _ _ _ _).mono ?_
      rintro e w2 ⟨hK2, rfl, hH2⟩
      have y3 : w2.cell? ⟨rb, 3, none⟩ = some (.slice na nn nc) := hH2.cell 3
      have y4 : w2.cell? ⟨rb, 4, none⟩ = some (.slice oa no oc) := hH2.cell 4
      have y5 : w2.cell? ⟨rb, 5, none⟩ = some (.slice ca no cc) := hH2.cell 5
      have hl2 := hH2.lt
      have hR2 := HH.out.turn hK2 j (by rw [← HNN.out, ← HNO.out, HCL.out, ← HNO.out]; exact hH2)
      have HR2 := Lib.hid hR2
      have HH2 := Lib.hid hH2
      have HK2 := Lib.hid hK2
      by_cases z : no = 0
      · have d3 : decide ((0 : Int) < (no : Int)) = false := by simp; omega
        have d3' : decide (0 < no) = false := by simp; omega
        have Z := Lib.hid z
        clear hH2 hK2 hR2 z
        go_wp2_with fail
        have hovr : w2.ownsRow base 3 1 (.slice oa no oc) no (st.opn.reverse.map fun (n : Nat) => Value.int .i64 (n : Int)) := by
          have := (show w2.ownsRow base 3 1 (.slice oa st.opn.length oc) st.opn.length (st.opn.reverse.map fun (n : Nat) => Value.int .i64 (n : Int)) from HR2.out.2.2.1)
          rw [← HNO.out] at this; exact this
        have hcvr : w2.ownsRow base 4 1 (.slice ca no cc) no (st.child.reverse.map fun (c : Bool) => Value.bool c) := by
          have := (show w2.ownsRow base 4 1 (.slice ca st.child.length cc) st.child.length (st.child.reverse.map fun (c : Bool) => Value.bool c) from HR2.out.2.2.2)
          rw [HCL.out, ← HNO.out] at this; exact this
        have hT2 : TreeS w2 base (.slice na nn nc) st.nodes := by
          have := (show TreeS w2 base (.slice na st.nodes.length nc) st.nodes from HR2.out.2.1)
          rw [← HNN.out] at this; exact this
        have hHW := HH2.out
        have hkc : st.child.length = no := by rw [HCL.out, ← HNO.out]
        have hor : Value.ownBlock (.slice oa no oc) ≠ some rb := owns_ne_holds hovr hHW (by decide)
        have hcr : Value.ownBlock (.slice ca no cc) ≠ some rb := owns_ne_holds hcvr hHW (by decide)
        have hoc : ∀ x, Value.ownBlock (.slice ca no cc) = some x → Value.ownBlock (.slice oa no oc) ≠ some x := fun x hx => by
          obtain ⟨_, cu, hcu⟩ := owned_holds hcvr hx
          exact owns_ne_holds hovr hcu (by decide)
        have hbw : base ≤ (w2).heap.size := by have := HI.out.rb; have := hHW.lt; omega
        refine wp_region_any (by kernel_rfl) ?_
        refine wpAny_ops (ops' := nqOps) (by kernel_rfl) ?_
        refine nq_region11 base rb j nn (no) (.slice ba b.length bc) sv (.slice na nn nc) (.slice oa no oc) (.slice ca no cc) (st.opn.reverse.map fun (n : Nat) => Value.int .i64 (n : Int)) ((st.child).reverse.map fun (c : Bool) => Value.bool c) (w2) _ _ rfl hovr hcvr (by omega) ⟨na, nc, rfl⟩ hbw hor hcr hoc rfl (hHW.keeps ((Keeps.refl (fun _ => False) w2).drew) (fun e => e)) ((Keeps.refl (fun _ => False) w2).drew) ?_
        rintro c w4 nB ov2 cv2 nC hsb ⟨w5, rfl, hr5, hk5, hH5⟩
        obtain ⟨y66, y67, y68, y69, y70, y71, y72, y73, y74, y75, y76, y77, y78, y79, y80, y81, y82, y83, y84, y85, y86, y87, y88, y89, rfl⟩ := hsb.ex [66, 67, 68, 69, 70, 71, 72, 73, 74, 75, 76, 77, 78, 79, 80, 81, 82, 83, 84, 85, 86, 87, 88, 89] (by kernel_rfl)
        simp only [List.setIfInBounds_toArray, List.set_cons_zero, List.set_cons_succ]
        obtain ⟨hRO, hKO⟩ := RdAt.opened hT2 hovr hcvr (by rw [← HNO.out]) hkc rfl rfl hr5 hk5 hH5 HI.out.rb
        generalize hw6 : (w5.setCell ⟨rb, 4, none⟩ ov2).setCell ⟨rb, 5, none⟩ cv2 = w6 at *
        clear hr5 hk5 hH5 hw6 hor hcr hoc hovr hcvr hT2
        obtain ⟨pvs, q1, q2, q3, q4, q5⟩ := (show TreeSep w6.heap.size w6 base (.slice na nn nc) st.nodes from hRO.2.1.low)
        rw [← HNN.out] at q2
        have v3 : w6.cell? ⟨rb, 3, none⟩ = some (.slice na nn nc) := hRO.1.cell 3
        have vf : w6.frozen? ⟨rb, 3, none⟩ = false := hRO.1.free 3
        have vl := hRO.1.lt
        have hb6 : base ≤ w6.heap.size := by have := HI.out.rb; omega
        have HRO := Lib.hid hRO
        have HKO := Lib.hid hKO
        have Q2 := Lib.hid q2
        clear hRO hKO q2
        obtain ⟨i0, hi2, hz0, hz1, hz2⟩ := info_parts infoNode8
        go_wp2_with (at_builtin; refine wpList_append_src _ rfl _ _ 23 23 rfl base 52 i0 _ 3 48 Tryz.underlying23 hi2 hz0 hz1 hz2 rfl _ nn (nodeCells st.nodes pvs) rfl ?e1 _ rfl 1 [.int .i64 (-1), .string ⟨t.toArray⟩, .slice none 0 0] ?e2 ?e3 ?e4 ?e5 ?_)
        case e1 => exact World.ownsRow.alloc Q2.out _
        case e2 => exact node_src (Holds.new w6 _ _)
        case e3 => unfold maxLen; omega
        case e4 => omega
        case e5 => first | omega | (simp; omega)
        intro nv2 w7 hown hgrow hat
        obtain ⟨a7, c7, rfl⟩ := row_slice hown
        have hob : Below w6.heap.size w6 (w6.alloc (.cells #[.int .i64 (-1), .string ⟨t.toArray⟩, .slice none 0 0] 52)) := (Below.refl _ _).alloc (Nat.le_refl _) _
        have hne7 : Value.ownBlock (.slice na nn nc) ≠ some rb := owns_ne_holds Q2.out HRO.out.1 (by decide)
        have hH7 := (HRO.out.1.alloc (.cells #[.int .i64 (-1), .string ⟨t.toArray⟩, .slice none 0 0] 52)).keeps (Keeps.of_grown (S := fun g => Value.ownBlock (.slice na nn nc) = some g) hgrow (fun _ e => e)) hne7
        have u3 := hH7.cell 3
        have uf := hH7.free 3
        have ul := hH7.lt
        have hpar : parentR st = -1 := by
          unfold parentR
          cases he : st.opn with
          | nil => rfl
          | cons o ro => have e1 := HNO.out; have e2 := Z.out; rw [he] at e1; simp at e1; omega
        have hch : markR st.child = st.child := by
          have e1 := HCL.out; rw [← HNO.out, Z.out] at e1
          rw [List.eq_nil_of_length_eq_zero e1]; rfl
        have hnok : NodeOk ⟨-1, ⟨t.toArray⟩, []⟩ := ⟨by show t.toArray.size ≤ _; simp; omega, by show (-9223372036854775808 : Int) ≤ -1; omega, by show (-1 : Int) ≤ 9223372036854775807; omega⟩
        obtain ⟨hRF, hKF⟩ := RdAt.grown (HRO.out.new hob) hnok rfl pvs q1 (by rw [← HNN.out]; exact World.ownsRow.alloc Q2.out _) (fun k hk hk2 => (q3 k hk hk2).new hob) q4 (q5.up (by simp)) (by rw [← HNN.out]; exact hown) hgrow HI.out.rb (by simp; omega)
        have HRF := Lib.hid hRF
        have HKF := Lib.hid hKF
        clear hRF hKF hown hgrow hat hH7 q1 q3 q4 q5
        go_wp2_with fail
        go_ret
        rw [hp.out, hpar, hch]
        have hw26 : Keeps (fun g => base ≤ g) w w6 := (HI.out.turn2 HK2.out).trans HKO.out (fun _ _ e => e)
        exact ⟨(hw26.trans ((Keeps.of_fresh hob (fun g => base ≤ g))) (fun _ _ e => e)).trans HKF.out (fun _ _ e => e), rfl, .slice a7 (nn + 1) c7, ov2, cv2, by have := HRF.out; rw [← HNN.out]; first | exact this | (rw [← HNN.out] at this; exact this)⟩
      · have d3 : decide ((0 : Int) < (no : Int)) = true := by simp; omega
        have d3' : decide (0 < no) = true := by simp; omega
        obtain ⟨k, rfl⟩ : ∃ k, no = k + 1 := ⟨no - 1, by omega⟩
        obtain ⟨o, ro, hop⟩ : ∃ o ro, st.opn = o :: ro := by
          cases he : st.opn with
          | nil => have := HNO.out; rw [he] at this; simp at this
          | cons o ro => exact ⟨o, ro, rfl⟩
        obtain ⟨c0, rc, hoc⟩ : ∃ c0 rc, st.child = c0 :: rc := by
          cases he : st.child with
          | nil => have := HCL.out; rw [he, ← HNO.out] at this; simp at this
          | cons c0 rc => exact ⟨c0, rc, rfl⟩
        have hrk : ro.length = k := by have := HNO.out; rw [hop] at this; simp at this; omega
        have hck : rc.length = k := by have := HCL.out; rw [← HNO.out, hoc] at this; simp at this; omega
        have hO : w2.ownsRow base 3 1 (.slice oa (k + 1) oc) (k + 1) ((ro.reverse.map fun (n : Nat) => Value.int .i64 (n : Int)) ++ [.int .i64 (o : Int)]) := by
          have := hR2.2.2.1
          rw [show ({ st with at_ := j } : RdS).opn = o :: ro from hop] at this
          simpa [hrk] using this
        have hC : w2.ownsRow base 4 1 (.slice ca (k + 1) cc) (k + 1) ((rc.reverse.map fun (c : Bool) => Value.bool c) ++ [.bool c0]) := by
          have := hR2.2.2.2
          rw [show ({ st with at_ := j } : RdS).child = c0 :: rc from hoc] at this
          simpa [hck] using this
        obtain ⟨go, oc', e1, hgo1, hgo2⟩ := hO.form (by omega)
        cases e1
        obtain ⟨gc, cc', e2, hgc1, hgc2⟩ := hC.form (by omega)
        cases e2
        have oz : w2.cell? ⟨go, k, none⟩ = some (.int .i64 (o : Int)) := by
          rw [hO.cellAt k (by omega), List.getElem?_append_right (by simp [hrk])]
          simp [hrk]
        have cz : w2.cell? ⟨gc, k, none⟩ = some (.bool c0) := by
          rw [hC.cellAt k (by omega), List.getElem?_append_right (by simp [hck])]
          simp [hck]
        have cf : w2.frozen? ⟨gc, k, none⟩ = false := hC.frozenAt k
        have k1 : IntKind.i64.wrap (((k + 1 : Nat) : Int) - 1) = (k : Int) := by rw [IntWalk.i64_in _ (by omega)]; omega
        have HOP := Lib.hid hop
        have HOC := Lib.hid hoc
        have HRK := Lib.hid hrk
        have HCK := Lib.hid hck
        have HO := Lib.hid hO
        have HC := Lib.hid hC
        clear hH2 hK2 hR2 z hop hoc hrk hck hO hC
        go_wp2_with fail
        go_quiet (fail)
        go_wp2_with fail
        generalize hw3 : w2.drewN _ = w3
        have hD3 : Keeps (fun _ => False) w2 w3 := by rw [← hw3]; exact (Keeps.refl _ w2).drewN _
        have t5 : w3.cell? ⟨rb, 5, none⟩ = some (.slice (some ⟨gc, 0, none⟩) (k + 1) cc) := (hD3.cell (p := ⟨rb, 5, none⟩) hl2 (fun e => e)).trans y5
        have tc : w3.cell? ⟨gc, k, none⟩ = some (.bool c0) := (hD3.cell (p := ⟨gc, k, none⟩) hgc2 (fun e => e)).trans cz
        have tf : w3.frozen? ⟨gc, k, none⟩ = false := (hD3.frozen (p := ⟨gc, k, none⟩) hgc2 (fun e => e)).trans cf
        have hl3 : rb < w3.heap.size := Nat.lt_of_lt_of_le hl2 hD3.size
        have hg3 : gc < w3.heap.size := Nat.lt_of_lt_of_le hgc2 hD3.size
        have HD3 := Lib.hid hD3
        clear hw3 hD3
        have i1 : (0 : Int) ≤ (k : Int) := by omega
        have k2 : IntKind.i64.wrap (k : Int) = (k : Int) := IntWalk.i64_in _ (by omega)
        have i2 : (k : Int) < ((k + 1 : Nat) : Int) := by omega
        have i3 : (k : Int) < (k : Int) + 1 := by omega
        have i4 : (k : Int).toNat = k := by omega
        have i5 : k < k + 1 := by omega
        go_still_tail 11, (by kernel_rfl)
        go_wp2_with fail
        obtain ⟨w8, hw8⟩ : ∃ w8, w8 = w3.setCell ⟨gc, k, none⟩ (.bool true) := ⟨_, rfl⟩
        rw [← hw8]
        have hC3 := ownsRow_keeps HC.out HD3.out (fun _ _ e => e)
        obtain ⟨hgcb, cu, hcu⟩ := owned_holds hC3 (g := gc) rfl
        have hovr : w8.ownsRow base 3 1 (.slice (some ⟨go, 0, none⟩) (k + 1) oc) (k + 1) (st.opn.reverse.map fun (n : Nat) => Value.int .i64 (n : Int)) := by
          have := row_set (ownsRow_keeps HO.out HD3.out (fun _ _ e => e)) hcu (by decide) k (.bool true)
          rw [hw8, HOP.out]; simpa using this
        have hcvr : w8.ownsRow base 4 1 (.slice (some ⟨gc, 0, none⟩) (k + 1) cc) (k + 1) ((true :: rc).reverse.map fun (c : Bool) => Value.bool c) := by
          have := (hC3.stored k (.bool true)).1
          rw [List.set_append_right _ _ (by simp [HCK.out])] at this
          rw [hw8]; simpa [HCK.out] using this
        have hT2 : TreeS w8 base (.slice na nn nc) st.nodes := by
          have := (show TreeS w2 base (.slice na st.nodes.length nc) st.nodes from HR2.out.2.1)
          rw [← HNN.out] at this
          rw [hw8]
          exact (this.keeps HD3.out (fun _ e => e.elim)).set hcu (by decide) (by decide) k _
        have hrg : rb ≠ gc := by rintro rfl; exact absurd (holds_type (HH2.out.keeps HD3.out (fun e => e)) hcu) (by decide)
        have hHW : Holds w8 rb (rdC (.slice ba b.length bc) sv j (.slice na nn nc) (.slice (some ⟨go, 0, none⟩) (k + 1) oc) (.slice (some ⟨gc, 0, none⟩) (k + 1) cc) 0 0) 75 := by
          rw [hw8]; exact (HH2.out.keeps HD3.out (fun e => e)).other ⟨gc, k, none⟩ _ hrg
        have hkc : (true :: rc).length = k + 1 := by simp [HCK.out]
        have HK8 := Lib.hid (show Keeps (fun g => base ≤ g) w2 w8 from by rw [hw8]; exact (HD3.out.mono (S := fun g => base ≤ g) (fun _ _ e => e.elim)).setCell (p := ⟨gc, k, none⟩) (.inr hgcb) _)
        clear hw8 hC3 hcu t5 tc tf hl3 hg3
        have hor : Value.ownBlock (.slice (some ⟨go, 0, none⟩) (k + 1) oc) ≠ some rb := owns_ne_holds hovr hHW (by decide)
        have hcr : Value.ownBlock (.slice (some ⟨gc, 0, none⟩) (k + 1) cc) ≠ some rb := owns_ne_holds hcvr hHW (by decide)
        have hoc : ∀ x, Value.ownBlock (.slice (some ⟨gc, 0, none⟩) (k + 1) cc) = some x → Value.ownBlock (.slice (some ⟨go, 0, none⟩) (k + 1) oc) ≠ some x := fun x hx => by
          obtain ⟨_, cu, hcu⟩ := owned_holds hcvr hx
          exact owns_ne_holds hovr hcu (by decide)
        have hbw : base ≤ (w8).heap.size := by have := HI.out.rb; have := hHW.lt; omega
        refine wp_region_any (by kernel_rfl) ?_
        refine wpAny_ops (ops' := nqOps) (by kernel_rfl) ?_
        refine nq_region11 base rb j nn (k + 1) (.slice ba b.length bc) sv (.slice na nn nc) (.slice (some ⟨go, 0, none⟩) (k + 1) oc) (.slice (some ⟨gc, 0, none⟩) (k + 1) cc) (st.opn.reverse.map fun (n : Nat) => Value.int .i64 (n : Int)) ((true :: rc).reverse.map fun (c : Bool) => Value.bool c) (w8) _ _ rfl hovr hcvr (by omega) ⟨na, nc, rfl⟩ hbw hor hcr hoc rfl (hHW.keeps (((Keeps.refl (fun _ => False) w8).drew).drew) (fun e => e)) (((Keeps.refl (fun _ => False) w8).drew).drew) ?_
        rintro c w4 nB ov2 cv2 nC hsb ⟨w5, rfl, hr5, hk5, hH5⟩
        obtain ⟨y66, y67, y68, y69, y70, y71, y72, y73, y74, y75, y76, y77, y78, y79, y80, y81, y82, y83, y84, y85, y86, y87, y88, y89, rfl⟩ := hsb.ex [66, 67, 68, 69, 70, 71, 72, 73, 74, 75, 76, 77, 78, 79, 80, 81, 82, 83, 84, 85, 86, 87, 88, 89] (by kernel_rfl)
        simp only [List.setIfInBounds_toArray, List.set_cons_zero, List.set_cons_succ]
        obtain ⟨hRO, hKO⟩ := RdAt.opened hT2 hovr hcvr (by rw [← HNO.out]) hkc rfl rfl hr5 hk5 hH5 HI.out.rb
        generalize hw6 : (w5.setCell ⟨rb, 4, none⟩ ov2).setCell ⟨rb, 5, none⟩ cv2 = w6 at *
        clear hr5 hk5 hH5 hw6 hor hcr hoc hovr hcvr hT2
        obtain ⟨pvs, q1, q2, q3, q4, q5⟩ := (show TreeSep w6.heap.size w6 base (.slice na nn nc) st.nodes from hRO.2.1.low)
        rw [← HNN.out] at q2
        have v3 : w6.cell? ⟨rb, 3, none⟩ = some (.slice na nn nc) := hRO.1.cell 3
        have vf : w6.frozen? ⟨rb, 3, none⟩ = false := hRO.1.free 3
        have vl := hRO.1.lt
        have hb6 : base ≤ w6.heap.size := by have := HI.out.rb; omega
        have HRO := Lib.hid hRO
        have HKO := Lib.hid hKO
        have Q2 := Lib.hid q2
        clear hRO hKO q2
        obtain ⟨i0, hi2, hz0, hz1, hz2⟩ := info_parts infoNode8
        go_wp2_with (at_builtin; refine wpList_append_src _ rfl _ _ 23 23 rfl base 52 i0 _ 3 48 Tryz.underlying23 hi2 hz0 hz1 hz2 rfl _ nn (nodeCells st.nodes pvs) rfl ?ge1 _ rfl 1 [.int .i64 (o : Int), .string ⟨t.toArray⟩, .slice none 0 0] ?ge2 ?ge3 ?ge4 ?ge5 ?_)
        case ge1 => exact World.ownsRow.alloc Q2.out _
        case ge2 => exact node_src (Holds.new w6 _ _)
        case ge3 => unfold maxLen; omega
        case ge4 => omega
        case ge5 => first | omega | (simp; omega)
        intro nv2 w7 hown hgrow hat
        obtain ⟨a7, c7, rfl⟩ := row_slice hown
        have hob : Below w6.heap.size w6 (w6.alloc (.cells #[.int .i64 (o : Int), .string ⟨t.toArray⟩, .slice none 0 0] 52)) := (Below.refl _ _).alloc (Nat.le_refl _) _
        have hne7 : Value.ownBlock (.slice na nn nc) ≠ some rb := owns_ne_holds Q2.out HRO.out.1 (by decide)
        have hH7 := (HRO.out.1.alloc (.cells #[.int .i64 (o : Int), .string ⟨t.toArray⟩, .slice none 0 0] 52)).keeps (Keeps.of_grown (S := fun g => Value.ownBlock (.slice na nn nc) = some g) hgrow (fun _ e => e)) hne7
        have u3 := hH7.cell 3
        have uf := hH7.free 3
        have ul := hH7.lt
        have hpar : parentR st = (o : Int) := by unfold parentR; rw [HOP.out]
        have hch : markR st.child = true :: rc := by rw [HOC.out]; rfl
        have hob120 : o ≤ 120 := HOX.out o (by rw [HOP.out]; exact List.mem_cons_self)
        have hnok : NodeOk ⟨(o : Int), ⟨t.toArray⟩, []⟩ := ⟨by show t.toArray.size ≤ _; simp; omega, by show (-9223372036854775808 : Int) ≤ (o : Int); omega, by show (o : Int) ≤ 9223372036854775807; omega⟩
        obtain ⟨hRF, hKF⟩ := RdAt.grown (HRO.out.new hob) hnok rfl pvs q1 (by rw [← HNN.out]; exact World.ownsRow.alloc Q2.out _) (fun k hk hk2 => (q3 k hk hk2).new hob) q4 (q5.up (by simp)) (by rw [← HNN.out]; exact hown) hgrow HI.out.rb (by simp; omega)
        have HRF := Lib.hid hRF
        have HKF := Lib.hid hKF
        clear hRF hKF hown hgrow hat hH7 q1 q3 q4 q5
        go_wp2_with fail
        go_ret
        rw [hp.out, hpar, hch]
        have hw26 : Keeps (fun g => base ≤ g) w w6 := ((HI.out.turn2 HK2.out).trans HK8.out (fun _ _ e => e)).trans HKO.out (fun _ _ e => e)
        exact ⟨(hw26.trans ((Keeps.of_fresh hob (fun g => base ≤ g))) (fun _ _ e => e)).trans HKF.out (fun _ _ e => e), rfl, .slice a7 (nn + 1) c7, ov2, cv2, by have := HRF.out; rw [← HNN.out]; first | exact this | (rw [← HNN.out] at this; exact this)⟩
end Go.Proofs.YtofhcgbihonckaaGreatDoor

namespace Go.Proofs.YtofhcgbihonckaaGreatDoor
open Go.RowKit
open Go.ChangeMaps
noncomputable def sqOps : Array Oper := (regOps (Tryz.f39.body.getD .skip) 11).getD #[]
theorem sqR : inRow2 .any sqOps = true := by kernel_rfl
theorem sqRa : apartB sqOps = true := by kernel_rfl
theorem sqRn : sqOps.size = 30 := by kernel_rfl
def SqF (rb _ k go oc gc cc : Nat) (_ _ _ : Value) (_ : Nat) (j : Nat) : Value → World → Prop := match j with
  | 0 => fun u _ => u = .pointer (some ⟨rb, 0, none⟩)
  | 1 => fun u _ => u = .pointer (some ⟨rb, 0, none⟩)
  | 2 => fun u _ => u = .pointer (some ⟨rb, 0, none⟩)
  | 3 => fun u _ => u = .pointer (some ⟨rb, 0, none⟩)
  | 4 => fun u _ => u = .pointer (some ⟨rb, 4, none⟩)
  | 5 => fun u _ => u = .slice (some ⟨go, 0, none⟩) (k + 1) oc
  | 6 => fun u _ => u = .pointer (some ⟨rb, 0, none⟩)
  | 7 => fun u _ => u = .pointer (some ⟨rb, 0, none⟩)
  | 8 => fun u _ => u = .pointer (some ⟨rb, 4, none⟩)
  | 9 => fun u _ => u = .slice (some ⟨go, 0, none⟩) (k + 1) oc
  | 10 => fun u _ => u = .int .i64 ((k + 1 : Nat) : Int)
  | 11 => fun u _ => u = .int .i64 (k : Int)
  | 12 => fun u _ => u = .slice (some ⟨go, 0, none⟩) k oc
  | 13 => fun u _ => u = .pointer (some ⟨rb, 0, none⟩)
  | 14 => fun u _ => u = .pointer (some ⟨rb, 0, none⟩)
  | 15 => fun u _ => u = .pointer (some ⟨rb, 5, none⟩)
  | 16 => fun u _ => u = .slice (some ⟨gc, 0, none⟩) (k + 1) cc
  | 17 => fun u _ => u = .pointer (some ⟨rb, 0, none⟩)
  | 18 => fun u _ => u = .pointer (some ⟨rb, 0, none⟩)
  | 19 => fun u _ => u = .pointer (some ⟨rb, 5, none⟩)
  | 20 => fun u _ => u = .slice (some ⟨gc, 0, none⟩) (k + 1) cc
  | 21 => fun u _ => u = .int .i64 ((k + 1 : Nat) : Int)
  | 22 => fun u _ => u = .int .i64 (k : Int)
  | 23 => fun u _ => u = .slice (some ⟨gc, 0, none⟩) k cc
  | 24 => fun u _ => u = .pointer (some ⟨rb, 0, none⟩)
  | 25 => fun u _ => u = .pointer (some ⟨rb, 4, none⟩)
  | 27 => fun u _ => u = .pointer (some ⟨rb, 0, none⟩)
  | 28 => fun u _ => u = .pointer (some ⟨rb, 5, none⟩)
  | _ => fun _ _ => True
/-- What holds until the chain's end. -/
def SqC (rb at_ k go oc gc cc : Nat) (bv sv nv : Value) (_ w : World) : Prop := Holds w rb (rdC bv sv at_ nv (.slice (some ⟨go, 0, none⟩) (k + 1) oc) (.slice (some ⟨gc, 0, none⟩) (k + 1) cc) 0 0) 75
/-- Where the chain stands. -/
def SqE (rb at_ k go oc gc cc : Nat) (bv sv nv : Value) (_ : Nat) (W w : World) (l : Array Bool) : Prop :=
  if l.getD 26 false = false then (Keeps (fun _ => False) W w) else
  if l.getD 29 false = false then (∃ w3, w = w3.setCell ⟨rb, 4, none⟩ (.slice (some ⟨go, 0, none⟩) k oc) ∧ Keeps (fun _ => False) W w3 ∧ Holds w3 rb (rdC bv sv at_ nv (.slice (some ⟨go, 0, none⟩) (k + 1) oc) (.slice (some ⟨gc, 0, none⟩) (k + 1) cc) 0 0) 75) else
  ∃ w3, w = (w3.setCell ⟨rb, 4, none⟩ (.slice (some ⟨go, 0, none⟩) k oc)).setCell ⟨rb, 5, none⟩ (.slice (some ⟨gc, 0, none⟩) k cc) ∧ Keeps (fun _ => False) W w3 ∧ Holds w3 rb (rdC bv sv at_ nv (.slice (some ⟨go, 0, none⟩) (k + 1) oc) (.slice (some ⟨gc, 0, none⟩) (k + 1) cc) 0 0) 75
section
variable {rb at_ k go oc gc cc : Nat} {bv sv nv : Value} {gh : Nat} {W w : World} {l : Array Bool}
theorem SqE.other {j : Nat} (h : SqE rb at_ k go oc gc cc bv sv nv gh W w l) (n0 : j ≠ 26) (n1 : j ≠ 29) : SqE rb at_ k go oc gc cc bv sv nv gh W w (l.setIfInBounds j true) := by
  unfold SqE at h ⊢
  rw [set_other n0, set_other n1]
  exact h
theorem SqE.at0 (h : SqE rb at_ k go oc gc cc bv sv nv gh W w l)  (no : l.getD 26 false = false) : Keeps (fun _ => False) W w := by
  unfold SqE at h
  rw [no, if_pos rfl] at h
  exact h
theorem SqE.to0  (hs : 26 < l.size) (no : l.getD 29 false = false) (h : ∃ w3, w = w3.setCell ⟨rb, 4, none⟩ (.slice (some ⟨go, 0, none⟩) k oc) ∧ Keeps (fun _ => False) W w3 ∧ Holds w3 rb (rdC bv sv at_ nv (.slice (some ⟨go, 0, none⟩) (k + 1) oc) (.slice (some ⟨gc, 0, none⟩) (k + 1) cc) 0 0) 75) : SqE rb at_ k go oc gc cc bv sv nv gh W w (l.setIfInBounds 26 true) := by
  unfold SqE
  rw [set_here hs, if_neg (by simp)]
  rw [set_other (show 26 ≠ 29 by decide), no, if_pos rfl]
  exact h
theorem SqE.at1 (h : SqE rb at_ k go oc gc cc bv sv nv gh W w l) (y0 : l.getD 26 false = true) (no : l.getD 29 false = false) : ∃ w3, w = w3.setCell ⟨rb, 4, none⟩ (.slice (some ⟨go, 0, none⟩) k oc) ∧ Keeps (fun _ => False) W w3 ∧ Holds w3 rb (rdC bv sv at_ nv (.slice (some ⟨go, 0, none⟩) (k + 1) oc) (.slice (some ⟨gc, 0, none⟩) (k + 1) cc) 0 0) 75 := by
  unfold SqE at h
  rw [y0, if_neg (by simp)] at h
  rw [no, if_pos rfl] at h
  exact h
theorem SqE.to1 (y0 : l.getD 26 false = true) (hs : 29 < l.size) (h : ∃ w3, w = (w3.setCell ⟨rb, 4, none⟩ (.slice (some ⟨go, 0, none⟩) k oc)).setCell ⟨rb, 5, none⟩ (.slice (some ⟨gc, 0, none⟩) k cc) ∧ Keeps (fun _ => False) W w3 ∧ Holds w3 rb (rdC bv sv at_ nv (.slice (some ⟨go, 0, none⟩) (k + 1) oc) (.slice (some ⟨gc, 0, none⟩) (k + 1) cc) 0 0) 75) : SqE rb at_ k go oc gc cc bv sv nv gh W w (l.setIfInBounds 29 true) := by
  unfold SqE
  rw [set_other (show 29 ≠ 26 by decide), y0, if_neg (by simp)]
  rw [set_here hs, if_neg (by simp)]
  exact h
theorem SqF.world {j : Nat} {u : Value} {w' : World} (h : SqF rb at_ k go oc gc cc bv sv nv gh j u w) : SqF rb at_ k go oc gc cc bv sv nv gh j u w' := by
  unfold SqF at *
  split at h
  all_goals exact h
end

set_option maxHeartbeats 8000000 in
set_option maxRecDepth 100000 in
theorem sq_region11 {Q : Exit → Act → World → Prop} (rb at_ k go oc gc cc : Nat) (bv sv nv : Value) (W w : World) (A : Act) (hsz : A.tmps.size = 135) (hk : k ≤ 1000000) (hoc : k + 1 ≤ oc) (hcc : k + 1 ≤ cc)
    (a0 : A.tmps.getD 0 undef = .pointer (some ⟨rb, 0, none⟩)) (hC0 : SqC rb at_ k go oc gc cc bv sv nv W w) (hE0 : Keeps (fun _ => False) W w)
    (hQ : ∀ c w' (gh : Nat), SameBut sqOps A c → (∃ w3, w' = (w3.setCell ⟨rb, 4, none⟩ (.slice (some ⟨go, 0, none⟩) k oc)).setCell ⟨rb, 5, none⟩ (.slice (some ⟨gc, 0, none⟩) k cc) ∧ Keeps (fun _ => False) W w3 ∧ Holds w3 rb (rdC bv sv at_ nv (.slice (some ⟨go, 0, none⟩) (k + 1) oc) (.slice (some ⟨gc, 0, none⟩) (k + 1) cc) 0 0) 75) → Q .normal c w') :
    wpAny Tryz.prog .any sqOps Q sqOps.size (Array.replicate sqOps.size false) A w := by
  refine wpAny_inv2 (fun l c wx => ∃ gh, RInvF sqOps A (SqF rb at_ k go oc gc cc bv sv nv gh) (fun _ => True) l c wx ∧ (l.getD 26 false = false → SqC rb at_ k go oc gc cc bv sv nv W wx) ∧ SqE rb at_ k go oc gc cc bv sv nv gh W wx l) sqR ?hend ?hstep _ _ _ _ (by simp) (by simp) ⟨0, RInvF.start trivial, fun _ => hC0, by unfold SqE; rw [if_pos (rep_no _ _)]; exact hE0⟩
  case hend =>
    rintro l c wx ⟨gh, hI, hC, hE⟩ hl
    have hh : ∀ k, k < 30 → l.getD k false = true := fun k hk => hl k (by rw [sqRn]; exact hk)
    have hEm : ∃ w3, wx = (w3.setCell ⟨rb, 4, none⟩ (.slice (some ⟨go, 0, none⟩) k oc)).setCell ⟨rb, 5, none⟩ (.slice (some ⟨gc, 0, none⟩) k cc) ∧ Keeps (fun _ => False) W w3 ∧ Holds w3 rb (rdC bv sv at_ nv (.slice (some ⟨go, 0, none⟩) (k + 1) oc) (.slice (some ⟨gc, 0, none⟩) (k + 1) cc) 0 0) 75 := by
      unfold SqE at hE
      rw [hh 26 (by decide), if_neg (by simp)] at hE
      rw [hh 29 (by decide), if_neg (by simp)] at hE
      exact hE
    exact hQ c wx gh hI.1.1  hEm
  intro l c wx hIx i' op ho hl hall K' hK'
  obtain ⟨gh, hI, hC, hE⟩ := hIx
  have hls : l.size = 30 := by rw [hI.1.2.2.1.1, sqRn]
  have hi' : i' < 30 := by rw [← sqRn]; exact (Array.getElem?_eq_some_iff.1 ho).1
  have ho2 := ho
  simp only [sqOps, regOps, Tryz.f39, Option.getD_some, reduceIte, Nat.reduceEqDiff] at ho
  have s0 := (hI.slot 0 (by kernel_rfl)).trans a0
  have fs := And.intro True.intro True.intro
  simp only [Array.getD_eq_getD_getElem?] at s0
  have hic : i' = 0 ∨ i' = 1 ∨ i' = 2 ∨ i' = 3 ∨ i' = 4 ∨ i' = 5 ∨ i' = 6 ∨ i' = 7 ∨ i' = 8 ∨ i' = 9 ∨ i' = 10 ∨ i' = 11 ∨ i' = 12 ∨ i' = 13 ∨ i' = 14 ∨ i' = 15 ∨ i' = 16 ∨ i' = 17 ∨ i' = 18 ∨ i' = 19 ∨ i' = 20 ∨ i' = 21 ∨ i' = 22 ∨ i' = 23 ∨ i' = 24 ∨ i' = 25 ∨ i' = 26 ∨ i' = 27 ∨ i' = 28 ∨ i' = 29 := by omega
  clear hi'
  rcases hic with rfl | rfl | rfl | rfl | rfl | rfl | rfl | rfl | rfl | rfl | rfl | rfl | rfl | rfl | rfl | rfl | rfl | rfl | rfl | rfl | rfl | rfl | rfl | rfl | rfl | rfl | rfl | rfl | rfl | rfl
  all_goals cases ho
  · go_simp
    exact hK' _ _ ⟨gh, hI.step sqRa 0 70 rfl (by rw [hsz]; decide) _ _ ho2 hall trivial (fun _ _ h => h) rfl, (fun h => hC (listed_set h)), hE.other (by decide) (by decide)⟩
  · go_simp
    exact hK' _ _ ⟨gh, hI.step sqRa 1 71 rfl (by rw [hsz]; decide) _ _ ho2 hall trivial (fun _ _ h => h) rfl, (fun h => hC (listed_set h)), hE.other (by decide) (by decide)⟩
  · go_simp
    exact hK' _ _ ⟨gh, hI.step sqRa 2 72 rfl (by rw [hsz]; decide) _ _ ho2 hall trivial (fun _ _ h => h) rfl, (fun h => hC (listed_set h)), hE.other (by decide) (by decide)⟩
  · have e2 : c.tmps.getD 72 undef = .pointer (some ⟨rb, 0, none⟩) := hI.fact 2 72 rfl (hI.1.2.2.1.2.yes_far 30 ho2 hall (by decide) (by kernel_rfl))
    have f2 := e2
    simp only [Array.getD_eq_getD_getElem?] at e2
    go_simp
    exact hK' _ _ ⟨gh, hI.step sqRa 3 73 rfl (by rw [hsz]; decide) _ _ ho2 hall trivial (fun _ _ h => h) rfl, (fun h => hC (listed_set h)), hE.other (by decide) (by decide)⟩
  · have e3 : c.tmps.getD 73 undef = .pointer (some ⟨rb, 0, none⟩) := hI.fact 3 73 rfl (hI.1.2.2.1.2.yes_far 30 ho2 hall (by decide) (by kernel_rfl))
    have f3 := e3
    simp only [Array.getD_eq_getD_getElem?] at e3
    go_simp
    exact hK' _ _ ⟨gh, hI.step sqRa 4 74 rfl (by rw [hsz]; decide) _ _ ho2 hall trivial (fun _ _ h => h) rfl, (fun h => hC (listed_set h)), hE.other (by decide) (by decide)⟩
  · have e4 : c.tmps.getD 74 undef = .pointer (some ⟨rb, 4, none⟩) := hI.fact 4 74 rfl (hI.1.2.2.1.2.yes_far 30 ho2 hall (by decide) (by kernel_rfl))
    have f4 := e4
    simp only [Array.getD_eq_getD_getElem?] at e4
    have hc := hC (hI.1.2.2.1.2.no_far 30 hl (by kernel_rfl : farB sqOps 30 26 5 = true))
    have x0 := hc.cell 4
    go_simp
    exact hK' _ _ ⟨gh, hI.step sqRa 5 75 rfl (by rw [hsz]; decide) _ _ ho2 hall trivial (fun _ _ h => h) rfl, (fun h => hC (listed_set h)), hE.other (by decide) (by decide)⟩
  · go_simp
    exact hK' _ _ ⟨gh, hI.step sqRa 6 76 rfl (by rw [hsz]; decide) _ _ ho2 hall trivial (fun _ _ h => h) rfl, (fun h => hC (listed_set h)), hE.other (by decide) (by decide)⟩
  · have e6 : c.tmps.getD 76 undef = .pointer (some ⟨rb, 0, none⟩) := hI.fact 6 76 rfl (hI.1.2.2.1.2.yes_far 30 ho2 hall (by decide) (by kernel_rfl))
    have f6 := e6
    simp only [Array.getD_eq_getD_getElem?] at e6
    go_simp
    exact hK' _ _ ⟨gh, hI.step sqRa 7 77 rfl (by rw [hsz]; decide) _ _ ho2 hall trivial (fun _ _ h => h) rfl, (fun h => hC (listed_set h)), hE.other (by decide) (by decide)⟩
  · have e7 : c.tmps.getD 77 undef = .pointer (some ⟨rb, 0, none⟩) := hI.fact 7 77 rfl (hI.1.2.2.1.2.yes_far 30 ho2 hall (by decide) (by kernel_rfl))
    have f7 := e7
    simp only [Array.getD_eq_getD_getElem?] at e7
    go_simp
    exact hK' _ _ ⟨gh, hI.step sqRa 8 78 rfl (by rw [hsz]; decide) _ _ ho2 hall trivial (fun _ _ h => h) rfl, (fun h => hC (listed_set h)), hE.other (by decide) (by decide)⟩
  · have e8 : c.tmps.getD 78 undef = .pointer (some ⟨rb, 4, none⟩) := hI.fact 8 78 rfl (hI.1.2.2.1.2.yes_far 30 ho2 hall (by decide) (by kernel_rfl))
    have f8 := e8
    simp only [Array.getD_eq_getD_getElem?] at e8
    have hc := hC (hI.1.2.2.1.2.no_far 30 hl (by kernel_rfl : farB sqOps 30 26 9 = true))
    have x0 := hc.cell 4
    go_simp
    exact hK' _ _ ⟨gh, hI.step sqRa 9 79 rfl (by rw [hsz]; decide) _ _ ho2 hall trivial (fun _ _ h => h) rfl, (fun h => hC (listed_set h)), hE.other (by decide) (by decide)⟩
  · have e9 : c.tmps.getD 79 undef = .slice (some ⟨go, 0, none⟩) (k + 1) oc := hI.fact 9 79 rfl (hI.1.2.2.1.2.yes_far 30 ho2 hall (by decide) (by kernel_rfl))
    have f9 := e9
    simp only [Array.getD_eq_getD_getElem?] at e9
    go_simp
    exact hK' _ _ ⟨gh, hI.step sqRa 10 80 rfl (by rw [hsz]; decide) _ _ ho2 hall trivial (fun _ _ h => h) rfl, (fun h => hC (listed_set h)), hE.other (by decide) (by decide)⟩
  · have e10 : c.tmps.getD 80 undef = .int .i64 ((k + 1 : Nat) : Int) := hI.fact 10 80 rfl (hI.1.2.2.1.2.yes_far 30 ho2 hall (by decide) (by kernel_rfl))
    have f10 := e10
    simp only [Array.getD_eq_getD_getElem?] at e10
    have kw : IntKind.i64.wrap (((k + 1 : Nat) : Int) - 1) = (k : Int) := by rw [IntWalk.i64_in _ (by omega)]; omega
    have kw2 : IntKind.i64.wrap (k : Int) = (k : Int) := IntWalk.i64_in _ (by omega)
    go_simp
    exact hK' _ _ ⟨gh, hI.step sqRa 11 81 rfl (by rw [hsz]; decide) _ _ ho2 hall trivial (fun _ _ h => h) rfl, (fun h => hC (listed_set h)), hE.other (by decide) (by decide)⟩
  · have e5 : c.tmps.getD 75 undef = .slice (some ⟨go, 0, none⟩) (k + 1) oc := hI.fact 5 75 rfl (hI.1.2.2.1.2.yes_far 30 ho2 hall (by decide) (by kernel_rfl))
    have f5 := e5
    simp only [Array.getD_eq_getD_getElem?] at e5
    have e11 : c.tmps.getD 81 undef = .int .i64 (k : Int) := hI.fact 11 81 rfl (hI.1.2.2.1.2.yes_far 30 ho2 hall (by decide) (by kernel_rfl))
    have f11 := e11
    simp only [Array.getD_eq_getD_getElem?] at e11
    have z0 : (0 : Int) ≤ (k : Int) := by omega
    have z1 : (k : Int) ≤ (oc : Int) := by omega
    have z2 : ¬ oc = 0 := by omega
    go_simp
    exact hK' _ _ ⟨gh, hI.step sqRa 12 82 rfl (by rw [hsz]; decide) _ _ ho2 hall trivial (fun _ _ h => h) rfl, (fun h => hC (listed_set h)), hE.other (by decide) (by decide)⟩
  · go_simp
    exact hK' _ _ ⟨gh, hI.step sqRa 13 83 rfl (by rw [hsz]; decide) _ _ ho2 hall trivial (fun _ _ h => h) rfl, (fun h => hC (listed_set h)), hE.other (by decide) (by decide)⟩
  · have e13 : c.tmps.getD 83 undef = .pointer (some ⟨rb, 0, none⟩) := hI.fact 13 83 rfl (hI.1.2.2.1.2.yes_far 30 ho2 hall (by decide) (by kernel_rfl))
    have f13 := e13
    simp only [Array.getD_eq_getD_getElem?] at e13
    go_simp
    exact hK' _ _ ⟨gh, hI.step sqRa 14 84 rfl (by rw [hsz]; decide) _ _ ho2 hall trivial (fun _ _ h => h) rfl, (fun h => hC (listed_set h)), hE.other (by decide) (by decide)⟩
  · have e14 : c.tmps.getD 84 undef = .pointer (some ⟨rb, 0, none⟩) := hI.fact 14 84 rfl (hI.1.2.2.1.2.yes_far 30 ho2 hall (by decide) (by kernel_rfl))
    have f14 := e14
    simp only [Array.getD_eq_getD_getElem?] at e14
    go_simp
    exact hK' _ _ ⟨gh, hI.step sqRa 15 85 rfl (by rw [hsz]; decide) _ _ ho2 hall trivial (fun _ _ h => h) rfl, (fun h => hC (listed_set h)), hE.other (by decide) (by decide)⟩
  · have e15 : c.tmps.getD 85 undef = .pointer (some ⟨rb, 5, none⟩) := hI.fact 15 85 rfl (hI.1.2.2.1.2.yes_far 30 ho2 hall (by decide) (by kernel_rfl))
    have f15 := e15
    simp only [Array.getD_eq_getD_getElem?] at e15
    have hc := hC (hI.1.2.2.1.2.no_far 30 hl (by kernel_rfl : farB sqOps 30 26 16 = true))
    have x0 := hc.cell 5
    go_simp
    exact hK' _ _ ⟨gh, hI.step sqRa 16 86 rfl (by rw [hsz]; decide) _ _ ho2 hall trivial (fun _ _ h => h) rfl, (fun h => hC (listed_set h)), hE.other (by decide) (by decide)⟩
  · go_simp
    exact hK' _ _ ⟨gh, hI.step sqRa 17 87 rfl (by rw [hsz]; decide) _ _ ho2 hall trivial (fun _ _ h => h) rfl, (fun h => hC (listed_set h)), hE.other (by decide) (by decide)⟩
  · have e17 : c.tmps.getD 87 undef = .pointer (some ⟨rb, 0, none⟩) := hI.fact 17 87 rfl (hI.1.2.2.1.2.yes_far 30 ho2 hall (by decide) (by kernel_rfl))
    have f17 := e17
    simp only [Array.getD_eq_getD_getElem?] at e17
    go_simp
    exact hK' _ _ ⟨gh, hI.step sqRa 18 88 rfl (by rw [hsz]; decide) _ _ ho2 hall trivial (fun _ _ h => h) rfl, (fun h => hC (listed_set h)), hE.other (by decide) (by decide)⟩
  · have e18 : c.tmps.getD 88 undef = .pointer (some ⟨rb, 0, none⟩) := hI.fact 18 88 rfl (hI.1.2.2.1.2.yes_far 30 ho2 hall (by decide) (by kernel_rfl))
    have f18 := e18
    simp only [Array.getD_eq_getD_getElem?] at e18
    go_simp
    exact hK' _ _ ⟨gh, hI.step sqRa 19 89 rfl (by rw [hsz]; decide) _ _ ho2 hall trivial (fun _ _ h => h) rfl, (fun h => hC (listed_set h)), hE.other (by decide) (by decide)⟩
  · have e19 : c.tmps.getD 89 undef = .pointer (some ⟨rb, 5, none⟩) := hI.fact 19 89 rfl (hI.1.2.2.1.2.yes_far 30 ho2 hall (by decide) (by kernel_rfl))
    have f19 := e19
    simp only [Array.getD_eq_getD_getElem?] at e19
    have hc := hC (hI.1.2.2.1.2.no_far 30 hl (by kernel_rfl : farB sqOps 30 26 20 = true))
    have x0 := hc.cell 5
    go_simp
    exact hK' _ _ ⟨gh, hI.step sqRa 20 90 rfl (by rw [hsz]; decide) _ _ ho2 hall trivial (fun _ _ h => h) rfl, (fun h => hC (listed_set h)), hE.other (by decide) (by decide)⟩
  · have e20 : c.tmps.getD 90 undef = .slice (some ⟨gc, 0, none⟩) (k + 1) cc := hI.fact 20 90 rfl (hI.1.2.2.1.2.yes_far 30 ho2 hall (by decide) (by kernel_rfl))
    have f20 := e20
    simp only [Array.getD_eq_getD_getElem?] at e20
    go_simp
    exact hK' _ _ ⟨gh, hI.step sqRa 21 91 rfl (by rw [hsz]; decide) _ _ ho2 hall trivial (fun _ _ h => h) rfl, (fun h => hC (listed_set h)), hE.other (by decide) (by decide)⟩
  · have e21 : c.tmps.getD 91 undef = .int .i64 ((k + 1 : Nat) : Int) := hI.fact 21 91 rfl (hI.1.2.2.1.2.yes_far 30 ho2 hall (by decide) (by kernel_rfl))
    have f21 := e21
    simp only [Array.getD_eq_getD_getElem?] at e21
    have kw : IntKind.i64.wrap (((k + 1 : Nat) : Int) - 1) = (k : Int) := by rw [IntWalk.i64_in _ (by omega)]; omega
    have kw2 : IntKind.i64.wrap (k : Int) = (k : Int) := IntWalk.i64_in _ (by omega)
    go_simp
    exact hK' _ _ ⟨gh, hI.step sqRa 22 92 rfl (by rw [hsz]; decide) _ _ ho2 hall trivial (fun _ _ h => h) rfl, (fun h => hC (listed_set h)), hE.other (by decide) (by decide)⟩
  · have e16 : c.tmps.getD 86 undef = .slice (some ⟨gc, 0, none⟩) (k + 1) cc := hI.fact 16 86 rfl (hI.1.2.2.1.2.yes_far 30 ho2 hall (by decide) (by kernel_rfl))
    have f16 := e16
    simp only [Array.getD_eq_getD_getElem?] at e16
    have e22 : c.tmps.getD 92 undef = .int .i64 (k : Int) := hI.fact 22 92 rfl (hI.1.2.2.1.2.yes_far 30 ho2 hall (by decide) (by kernel_rfl))
    have f22 := e22
    simp only [Array.getD_eq_getD_getElem?] at e22
    have z0 : (0 : Int) ≤ (k : Int) := by omega
    have z1 : (k : Int) ≤ (cc : Int) := by omega
    have z2 : ¬ cc = 0 := by omega
    go_simp
    exact hK' _ _ ⟨gh, hI.step sqRa 23 93 rfl (by rw [hsz]; decide) _ _ ho2 hall trivial (fun _ _ h => h) rfl, (fun h => hC (listed_set h)), hE.other (by decide) (by decide)⟩
  · have e0 : c.tmps.getD 70 undef = .pointer (some ⟨rb, 0, none⟩) := hI.fact 0 70 rfl (hI.1.2.2.1.2.yes_far 30 ho2 hall (by decide) (by kernel_rfl))
    have f0 := e0
    simp only [Array.getD_eq_getD_getElem?] at e0
    go_simp
    exact hK' _ _ ⟨gh, hI.step sqRa 24 94 rfl (by rw [hsz]; decide) _ _ ho2 hall trivial (fun _ _ h => h) rfl, (fun h => hC (listed_set h)), hE.other (by decide) (by decide)⟩
  · have e24 : c.tmps.getD 94 undef = .pointer (some ⟨rb, 0, none⟩) := hI.fact 24 94 rfl (hI.1.2.2.1.2.yes_far 30 ho2 hall (by decide) (by kernel_rfl))
    have f24 := e24
    simp only [Array.getD_eq_getD_getElem?] at e24
    go_simp
    exact hK' _ _ ⟨gh, hI.step sqRa 25 95 rfl (by rw [hsz]; decide) _ _ ho2 hall trivial (fun _ _ h => h) rfl, (fun h => hC (listed_set h)), hE.other (by decide) (by decide)⟩
  · have e12 : c.tmps.getD 82 undef = .slice (some ⟨go, 0, none⟩) k oc := hI.fact 12 82 rfl (hI.1.2.2.1.2.yes_far 30 ho2 hall (by decide) (by kernel_rfl))
    have f12 := e12
    simp only [Array.getD_eq_getD_getElem?] at e12
    have e25 : c.tmps.getD 95 undef = .pointer (some ⟨rb, 4, none⟩) := hI.fact 25 95 rfl (hI.1.2.2.1.2.yes_far 30 ho2 hall (by decide) (by kernel_rfl))
    have f25 := e25
    simp only [Array.getD_eq_getD_getElem?] at e25
    have hc := hC (hI.1.2.2.1.2.no_far 30 hl (by kernel_rfl : farB sqOps 30 26 26 = true))
    have hp := hE.at0  hl
    have un := hI.1.2.2.1.2.no_far 30 hl (by kernel_rfl : farB sqOps 30 29 26 = true)
    have x0 := hc.cell 4
    have x1 := hc.free 4
    have x2 := hc.lt
    go_simp
    have hp2 : ∃ w3, wx.setCell ⟨rb, 4, none⟩ (.slice (some ⟨go, 0, none⟩) k oc) = w3.setCell ⟨rb, 4, none⟩ (.slice (some ⟨go, 0, none⟩) k oc) ∧ Keeps (fun _ => False) W w3 ∧ Holds w3 rb (rdC bv sv at_ nv (.slice (some ⟨go, 0, none⟩) (k + 1) oc) (.slice (some ⟨gc, 0, none⟩) (k + 1) cc) 0 0) 75 := ⟨_, rfl, hp, hc⟩
    exact hK' _ _ ⟨_, hI.stepN 26 rfl _ ho2 hall trivial (fun _ _ h => SqF.world h) trivial, fun h => absurd h (by rw [set_here (by rw [hls]; decide)]; simp), SqE.to0  (by rw [hls]; decide) un hp2⟩
  · have e1 : c.tmps.getD 71 undef = .pointer (some ⟨rb, 0, none⟩) := hI.fact 1 71 rfl (hI.1.2.2.1.2.yes_far 30 ho2 hall (by decide) (by kernel_rfl))
    have f1 := e1
    simp only [Array.getD_eq_getD_getElem?] at e1
    go_simp
    exact hK' _ _ ⟨gh, hI.step sqRa 27 96 rfl (by rw [hsz]; decide) _ _ ho2 hall trivial (fun _ _ h => h) rfl, (fun h => hC (listed_set h)), hE.other (by decide) (by decide)⟩
  · have e27 : c.tmps.getD 96 undef = .pointer (some ⟨rb, 0, none⟩) := hI.fact 27 96 rfl (hI.1.2.2.1.2.yes_far 30 ho2 hall (by decide) (by kernel_rfl))
    have f27 := e27
    simp only [Array.getD_eq_getD_getElem?] at e27
    go_simp
    exact hK' _ _ ⟨gh, hI.step sqRa 28 97 rfl (by rw [hsz]; decide) _ _ ho2 hall trivial (fun _ _ h => h) rfl, (fun h => hC (listed_set h)), hE.other (by decide) (by decide)⟩
  · have e23 : c.tmps.getD 93 undef = .slice (some ⟨gc, 0, none⟩) k cc := hI.fact 23 93 rfl (hI.1.2.2.1.2.yes_far 30 ho2 hall (by decide) (by kernel_rfl))
    have f23 := e23
    simp only [Array.getD_eq_getD_getElem?] at e23
    have e28 : c.tmps.getD 97 undef = .pointer (some ⟨rb, 5, none⟩) := hI.fact 28 97 rfl (hI.1.2.2.1.2.yes_far 30 ho2 hall (by decide) (by kernel_rfl))
    have f28 := e28
    simp only [Array.getD_eq_getD_getElem?] at e28

    have y0 : l.getD 26 false = true := hI.1.2.2.1.2.yes_far 30 ho2 hall (by decide) (by kernel_rfl)
    have hp := hE.at1 y0 hl
    obtain ⟨w3, hw3, hq⟩ := hp
    have hst := hq.2.set 4 (.slice (some ⟨go, 0, none⟩) k oc)
    rw [← hw3] at hst
    have x0 := hst.cell 5
    have x1 := hst.free 5
    have x2 := hst.lt
    have HW3 := Lib.hid hw3
    clear hw3
    go_simp
    have hp2 : ∃ w3, wx.setCell ⟨rb, 5, none⟩ (.slice (some ⟨gc, 0, none⟩) k cc) = (w3.setCell ⟨rb, 4, none⟩ (.slice (some ⟨go, 0, none⟩) k oc)).setCell ⟨rb, 5, none⟩ (.slice (some ⟨gc, 0, none⟩) k cc) ∧ Keeps (fun _ => False) W w3 ∧ Holds w3 rb (rdC bv sv at_ nv (.slice (some ⟨go, 0, none⟩) (k + 1) oc) (.slice (some ⟨gc, 0, none⟩) (k + 1) cc) 0 0) 75 := ⟨w3, by rw [← HW3.out], hq⟩
    exact hK' _ _ ⟨_, hI.stepN 29 rfl _ ho2 hall trivial (fun _ _ h => SqF.world h) trivial, fun h => absurd h (by rw [set_other (show 29 ≠ 26 by decide), y0]; simp), SqE.to1 y0 (by rw [hls]; decide) hp2⟩
end Go.Proofs.YtofhcgbihonckaaGreatDoor

namespace Go.Proofs.YtofhcgbihonckaaGreatDoor
open Go.RowKit Go.ChangeMaps

/-- What a step leaves: whether it was the end, and whether it went well. -/
def StepPost (rb base : Nat) (bv sv : Value) (R : Re (Bool × RdS)) (w : World) (e : Ending) (w' : World) : Prop :=
  Keeps (fun g => base ≤ g) w w' ∧ match R with
  | .ok (d, st) => e = .returned (.tuple #[.bool d, .bool true]) ∧ ∃ nv ov cv, RdAt w' rb base bv sv st nv ov cv
  | .error (p, er) => ∃ d, e = .returned (.tuple #[.bool d, .bool false]) ∧ ∃ (a : Nat) (nv ov cv : Value), Holds w' rb (rdC bv sv a nv ov cv p er) 75
/-- What holds of the reader's state ahead of each step. -/
structure StOk (b : List UInt8) (st : RdS) : Prop where
  at_ : st.at_ ≤ b.length
  nodes : st.nodes.length ≤ 120
  opn : st.opn.length ≤ 9
  child : st.child.length = st.opn.length
  low : ∀ o ∈ st.opn, o < st.nodes.length
  props : ∀ n ∈ st.nodes, n.props.length ≤ st.at_
theorem nbR_ok {b : List UInt8} {i n : Nat} (h : nbR b i = .ok n) : i + 4 ≤ b.length ∧ n = numB b i := by
  unfold nbR at h
  split at h
  · cases h; exact ⟨by assumption, rfl⟩
  · cases h
theorem markR_len : ∀ l : List Bool, (markR l).length = l.length
  | [] => rfl
  | _ :: _ => rfl
theorem textR_ok {b t : List UInt8} {i j : Nat} (h : textR b i = .ok (t, j)) : j ≤ b.length ∧ i < j := by
  unfold textR at h
  simp only [] at h
  repeat' split at h
  all_goals cases h
  omega
theorem nodeR_keeps {b : List UInt8} {st st' : RdS} (h : nodeR b st = .ok st') (k : StOk b st) : StOk b st' := by
  unfold nodeR at h
  split at h
  · cases h
  · rename_i hc
    cases ht : textR b st.at_ with
    | error e => rw [ht] at h; cases h
    | ok tj =>
      obtain ⟨t, j⟩ := tj
      rw [ht] at h
      cases h
      have h1 := textR_ok ht
      have := k.nodes; have := k.opn
      refine ⟨h1.1, by simp; omega, by simp; omega, by simp [markR_len, k.child], fun o ho => ?_, fun n hn => ?_⟩
      · simp at ho ⊢
        rcases ho with rfl | ho
        · omega
        · have := k.low o ho; omega
      · simp at hn
        rcases hn with hn | rfl
        · have := k.props n hn; show n.props.length ≤ j; omega
        · simp
theorem addProp_mem {T : List NodeT} {o : Nat} {p : PropT} {n : NodeT} (h : n ∈ addProp T o p) : ∃ m ∈ T, n.props.length ≤ m.props.length + 1 := by
  unfold addProp at h
  obtain ⟨i, hi, rfl⟩ := List.getElem_of_mem h
  rw [List.length_modify] at hi
  refine ⟨T[i], List.getElem_mem hi, ?_⟩
  rw [List.getElem_modify]
  split
  · simp
  · omega
theorem propR_keeps {b s : List UInt8} {st st' : RdS} (h : propR b s st = .ok st') (k : StOk b st) : StOk b st' := by
  unfold propR at h
  cases h1 : nbR b st.at_ with
  | error e => rw [h1] at h; cases h
  | ok n1 =>
    rw [h1] at h
    simp only [] at h
    split at h
    · cases h
    · cases h2 : nbR b (st.at_ + 4) with
      | error e => rw [h2] at h; cases h
      | ok n2 =>
        rw [h2] at h
        simp only [] at h
        cases h3 : stringR s n2 with
        | none => rw [h3] at h; cases h
        | some nm =>
          rw [h3] at h
          simp only [] at h
          split at h
          · cases h
          · split at h
            · cases h
            · cases h
              have e1 : ∀ p, (addProp st.nodes (st.opn.headD 0) p).length = st.nodes.length := fun p => by unfold addProp; exact List.length_modify ..
              refine ⟨by show st.at_ + 8 + (n1 + 3) / 4 * 4 ≤ b.length; omega, by show (addProp _ _ _).length ≤ _; rw [e1]; exact k.nodes, k.opn, k.child, fun o ho => by show o < (addProp _ _ _).length; rw [e1]; exact k.low o ho, fun n hn => ?_⟩
              obtain ⟨m, hm, hl⟩ := addProp_mem hn
              have := k.props m hm
              show n.props.length ≤ st.at_ + 8 + _
              omega
/-- The innermost open node left. -/
theorem RdAt.popped {w w3 : World} {rb base go gc oc cc k at_ o : Nat} {bv sv nv : Value} {T : List NodeT} {ro : List Nat} {c : Bool} {rc : List Bool} (h : RdAt w rb base bv sv ⟨at_, T, o :: ro, c :: rc⟩ nv (.slice (some ⟨go, 0, none⟩) (k + 1) oc) (.slice (some ⟨gc, 0, none⟩) (k + 1) cc))
    (hk : ro.length = k) (hkc : rc.length = k) (hK : Keeps (fun _ => False) w w3) (hH : Holds w3 rb (rdC bv sv at_ nv (.slice (some ⟨go, 0, none⟩) (k + 1) oc) (.slice (some ⟨gc, 0, none⟩) (k + 1) cc) 0 0) 75) (hrb : base ≤ rb) :
    RdAt ((w3.setCell ⟨rb, 4, none⟩ (.slice (some ⟨go, 0, none⟩) k oc)).setCell ⟨rb, 5, none⟩ (.slice (some ⟨gc, 0, none⟩) k cc)) rb base bv sv ⟨at_, T, ro, rc⟩ nv (.slice (some ⟨go, 0, none⟩) k oc) (.slice (some ⟨gc, 0, none⟩) k cc) ∧
      Keeps (fun g => base ≤ g) w ((w3.setCell ⟨rb, 4, none⟩ (.slice (some ⟨go, 0, none⟩) k oc)).setCell ⟨rb, 5, none⟩ (.slice (some ⟨gc, 0, none⟩) k cc)) := by
  obtain ⟨h1, h2, h3, h4⟩ := h
  have hH4 := hH.set 4 (.slice (some ⟨go, 0, none⟩) k oc)
  have h3' : w3.ownsRow base 3 1 (.slice (some ⟨go, 0, none⟩) (k + 1) oc) (k + 1) ((ro.reverse.map fun (n : Nat) => Value.int .i64 (n : Int)) ++ [.int .i64 (o : Int)]) := by
    have := ownsRow_keeps h3 hK (fun _ _ e => e); simpa [hk] using this
  have h4' : w3.ownsRow base 4 1 (.slice (some ⟨gc, 0, none⟩) (k + 1) cc) (k + 1) ((rc.reverse.map fun (c : Bool) => Value.bool c) ++ [.bool c]) := by
    have := ownsRow_keeps h4 hK (fun _ _ e => e); simpa [hkc] using this
  have p3 := ownsRow_pop (by simp [hk]) h3'
  have p4 := ownsRow_pop (by simp [hkc]) h4'
  refine ⟨⟨hH4.set 5 _, ((h2.keeps hK (fun _ e => e.elim)).set hH (by decide) (by decide) 4 _).set hH4 (by decide) (by decide) 5 _, ?_, ?_⟩, ?_⟩
  · have := row_set (row_set p3 hH (by decide) 4 (.slice (some ⟨go, 0, none⟩) k oc)) hH4 (by decide) 5 (.slice (some ⟨gc, 0, none⟩) k cc)
    simpa [hk] using this
  · have := row_set (row_set p4 hH (by decide) 4 (.slice (some ⟨go, 0, none⟩) k oc)) hH4 (by decide) 5 (.slice (some ⟨gc, 0, none⟩) k cc)
    simpa [hkc] using this
  · exact ((hK.mono (S := fun g => base ≤ g) (fun _ _ e => e.elim)).setCell (p := ⟨rb, 4, none⟩) (.inr hrb) _).setCell (p := ⟨rb, 5, none⟩) (.inr hrb) _
end Go.Proofs.YtofhcgbihonckaaGreatDoor
