/- include: small facts for load's loop (plain and of memory). | include, in plain Lean: what a loading leaves is sound. | include: load: the loader in memory, what holds in its loop. | include: load: what its loop leaves behind each definition, and at its end. | bringupref04: member: a part put behind the parts so far, region 24 (printed by gr4p.py). | bringupref04: member: a part put behind the parts so far, region 27 (printed by gr4p.py). | bringupref04: member, a property (printed by gr4t.py). | bringupref04: member, a property (printed by gr4t.py). | bringupref04: member, body, top. | bringupref04: Read. -/
import Derived.Test.YtofhcgbihonckaaGreatZ24
import Derived.Test.YtofhcgbihonckaaGreatZ19
import Derived.Test.YtofhcgbihonckaaGreatZ9
import Derived.Test.YtofhcgbihonckaaGreatZ6
import Derived.Test.YtofhcgbihonckaaGreatZ1
import Derived.Test.YtofhcgbihonckaaGreatZ25
import Derived.Test.YtofhcgbihonckaaGreatZ15
import Derived.StillTailTactics
import Derived.Deep.DeepCutAuto
import Derived.Deep.CutBlock
import Derived.Deep.CutRange
import Derived.Test.YtofhcgbihonckaaGreatZ23
import Derived.Deep.AppendSrc
import Derived.Test.YtofhcgbihonckaaGreatZ22
import Derived.Deep.LoopGhost
import Derived.Test.YtofhcgbihonckaaGreatZ18
import Derived.Test.YtofhcgbihonckaaGreatZ27
set_option linter.unusedVariables false
set_option linter.unusedSimpArgs false
set_option linter.unusedSectionVars false
namespace Go.Proofs.YtofhcgbihonckaaGreat
open Go.RowKit
end Go.Proofs.YtofhcgbihonckaaGreat
namespace Go.Proofs.YtofhcgbihonckaaGreat
open Go.RowKit
theorem nodup_lt : ∀ (n : Nat) (l : List Nat), l.Nodup → (∀ k ∈ l, k < n) → l.length ≤ n
  | 0, [], _, _ => Nat.le_refl _
  | 0, a :: l, _, h => absurd (h a List.mem_cons_self) (by omega)
  | n + 1, l, hd, h => by
    have h1 := nodup_lt n (l.erase n) (hd.erase n) (fun k hk => by
      have h2 := (hd.mem_erase_iff).1 hk
      have := h k h2.2
      omega)
    by_cases hm : n ∈ l
    · rw [List.length_erase_of_mem hm] at h1; omega
    · rw [List.erase_of_not_mem hm] at h1; omega
theorem src_short (l : List UInt8) (file : Int) : (srcT l file).1.length ≤ 6001 := by
  have h8 := (readT_text l file).2.1
  rcases src_law l file with ⟨_, _, hi, ⟨ks, e, hp, hk⟩, _⟩ | h
  · have hl : (srcT l file).1.length = ks.length := by
      have := congrArg List.length e
      simpa using this
    have h1 := nodup_lt (readT l file).1.length ks (hp.imp (fun hab e => by omega)) (fun k hkm => by
      have h2 := (hk k hkm).2.2
      rcases Nat.lt_or_ge k (readT l file).1.length with c | c
      · exact c
      · exact absurd (by unfold tkN; rw [List.getD_eq_getElem?_getD, List.getElem?_eq_none c]; rfl) h2)
    omega
  · rcases h with h | h
    · unfold srcT at h ⊢
      split
      · simp
      · split
        · rename_i h1 _ _ h2
          rw [if_neg h1, h2] at h
          exact absurd rfl h
        · simp
    · rw [h]; simp
structure GivOk (F : List FileT) (opn : List Nat) (ord : List ByteArray) (giv : GivT) : Prop where
  keys : ∃ ks : List Nat, giv.map (·.1) = ks.map (fun k : Nat => (k : Int)) ∧ (ks ++ opn).Nodup ∧ ∀ k ∈ ks ++ opn, k < F.length
  len : ∀ p ∈ giv, p.2.length ≤ 6000
  ord : ord.length = giv.length + opn.length
section
variable {F : List FileT} {opn : List Nat} {ord : List ByteArray} {giv : GivT}
theorem GivOk.opnd (h : GivOk F opn ord giv) : opn.Nodup ∧ ∀ k ∈ opn, k < F.length := by
  obtain ⟨ks, e, hn, hk⟩ := h.keys
  exact ⟨(List.nodup_append.1 hn).2.1, fun k hm => hk k (List.mem_append_right _ hm)⟩
end
end Go.Proofs.YtofhcgbihonckaaGreat
namespace Go.Proofs.YtofhcgbihonckaaGreat
open Go.RowKit Go.ChangeMaps
def natRow (l : List Nat) : List Value := l.map fun (n : Nat) => Value.int .i64 (n : Int)
def strRow (l : List ByteArray) : List Value := l.map fun s => Value.string s
structure LdAt (A : Nat → Prop) (w : World) (lb mb base : Nat) (fv ov rv : Value) (F : List FileT) (opn : List Nat) (ord : List ByteArray) (giv : GivT) : Prop where
  holds : Holds w lb (ldC fv mb ov rv) 95
  files : FilesAt w fv F
  low : ∀ g, fv.ownBlock = some g → g < base
  opn : w.ownsRow base 3 1 ov opn.length (natRow opn)
  ord : w.ownsRow base 9 1 rv ord.length (strRow ord)
  giv : ∃ gvs : List (Int × Value), RowsJ w mb gvs ∧ gvs.length = giv.length ∧ ∀ i (h : i < giv.length) (h2 : i < gvs.length), gvs[i].1 = giv[i].1 ∧ FdsRow w base gvs[i].2 giv[i].2 ∧ ∀ g, gvs[i].2.ownBlock = some g → ¬ A g
  lbb : base ≤ lb
  mbb : base ≤ mb
  size : base ≤ w.heap.size
def LdS (lb mb : Nat) (ov rv : Value) (i : Nat) : Prop := i = lb ∨ i = mb ∨ ov.ownBlock = some i ∨ rv.ownBlock = some i
def Turn (w : World) (v v' : Value) : Prop := ∀ g, v'.ownBlock = some g → v.ownBlock = some g ∨ w.heap.size ≤ g
theorem Turn.refl (w : World) (v : Value) : Turn w v v := fun _ h => .inl h
theorem Turn.trans {w w' : World} {a b c : Value} (h : Turn w a b) (k : Turn w' b c) (hs : w.heap.size ≤ w'.heap.size) : Turn w a c := by
  intro g hg
  rcases k g hg with e | e
  · exact h g e
  · exact .inr (by omega)
section
variable {A : Nat → Prop} {w w' : World} {lb mb base : Nat} {fv ov rv : Value} {F : List FileT} {opn : List Nat} {ord : List ByteArray} {giv : GivT}
theorem LdAt.typed (h : LdAt A w lb mb base fv ov rv F opn ord giv) {i : Nat} (hi : LdS lb mb ov rv i) {cs : Array Value} {t : TypeId} (hc : Holds w i cs t) : t = 95 ∨ t = 3 ∨ t = 9 := by
  rcases hi with rfl | rfl | e | e
  · have := h.holds.symm.trans hc
    injection this with this; injection this with _ this; exact .inl this.symm
  · obtain ⟨gvs, ⟨es, clock, hb, _⟩, _⟩ := h.giv
    have := hb.symm.trans hc
    injection this with this; cases this
  · obtain ⟨_, _, cur, hb⟩ := own_lt h.opn e
    have := hb.symm.trans hc
    injection this with this; injection this with _ this; exact .inr (.inl this.symm)
  · obtain ⟨_, _, cur, hb⟩ := own_lt h.ord e
    have := hb.symm.trans hc
    injection this with this; injection this with _ this; exact .inr (.inr this.symm)
theorem LdAt.fds (h : LdAt A w lb mb base fv ov rv F opn ord giv) (k : Keeps (LdS lb mb ov rv) w w') {b2 : Nat} {v : Value} {l : List FdT} (r : FdsRow w b2 v l) : FdsRow w' b2 v l := by
  refine r.keeps k (fun g hg hS => ?_) (fun b _ hS cur => ⟨fun hc => ?_, fun hc => ?_⟩)
  · obtain ⟨_, _, hr, _⟩ := id r
    obtain ⟨_, _, cur, hb⟩ := own_lt hr hg
    rcases h.typed hS hb with e | e | e <;> exact absurd e (by decide)
  · rcases h.typed hS hc with e | e | e <;> exact absurd e (by decide)
  · rcases h.typed hS hc with e | e | e <;> exact absurd e (by decide)
theorem LdAt.pos (h : LdAt A w lb mb base fv ov rv F opn ord giv) (k : Keeps (LdS lb mb ov rv) w w') {b : Nat} {cs : Array Value} (r : Holds w b cs 27) : Holds w' b cs 27 := by
  refine r.keeps k (fun hS => ?_)
  rcases h.typed hS r with e | e | e <;> exact absurd e (by decide)
theorem LdAt.new (h : LdAt A w lb mb base fv ov rv F opn ord giv) (k : Below w.heap.size w w') : LdAt A w' lb mb base fv ov rv F opn ord giv := by
  have kf : Keeps (fun _ => False) w w' := Keeps.of_fresh k _
  obtain ⟨gvs, hg, h1, h2⟩ := h.giv
  exact ⟨h.holds.keeps kf (fun e => e), h.files.new k, h.low, ownsRow_keeps h.opn kf (fun _ _ e => e), ownsRow_keeps h.ord kf (fun _ _ e => e), ⟨gvs, hg.keeps kf (fun e => e), h1, fun i hi hi2 => ⟨(h2 i hi hi2).1, (h2 i hi hi2).2.1.new k, (h2 i hi hi2).2.2⟩⟩, h.lbb, h.mbb, Nat.le_trans h.size k.size⟩
theorem look_pair (k : Nat) : ∀ (giv : GivT) (gvs : List (Int × Value)), gvs.length = giv.length → (∀ i (h : i < giv.length) (h2 : i < gvs.length), gvs[i].1 = giv[i].1) →
    (givT giv k = none ∧ rowOfJ gvs k = (.slice none 0 0, false)) ∨ ∃ i, ∃ h : i < giv.length, ∃ h2 : i < gvs.length, givT giv k = some giv[i].2 ∧ rowOfJ gvs k = (gvs[i].2, true)
  | [], [], _, _ => .inl ⟨rfl, rfl⟩
  | p :: giv, q :: gvs, hl, he => by
    have e0 : q.1 = p.1 := he 0 (by simp) (by simp)
    by_cases hk : p.1 = (k : Int)
    · exact .inr ⟨0, by simp, by simp, by simp [givT, hk], by simp [rowOfJ, e0, hk]⟩
    · have e1 : givT (p :: giv) k = givT giv k := by simp [givT, hk]
      have e2 : rowOfJ (q :: gvs) k = rowOfJ gvs k := by simp [rowOfJ, e0, hk]
      rw [e1, e2]
      rcases look_pair k giv gvs (by simpa using hl) (fun i h h2 => he (i + 1) (by simpa using h) (by simpa using h2)) with h | ⟨i, h, h2, h3, h4⟩
      · exact .inl h
      · exact .inr ⟨i + 1, by simpa using h, by simpa using h2, h3, h4⟩
theorem LdAt.look (h : LdAt A w lb mb base fv ov rv F opn ord giv) (hg : GivOk F opn ord giv) (k : Nat) (hk : k ≤ 1000) :
    ∃ v b, (Instr.lookup 93 (.map (some mb)) (.int .i64 k) true).run Tryz.prog w = .ok (.tuple #[v, .bool b]) w ∧ ((givT giv k = none ∧ b = false ∧ v = .slice none 0 0) ∨ ∃ l, givT giv k = some l ∧ b = true ∧ FdsRow w base v l ∧ l.length ≤ 6000 ∧ ∀ g, v.ownBlock = some g → ¬ A g) := by
  obtain ⟨gvs, hJ, h1, h2⟩ := h.giv
  have hd : (gvs.map (·.1)).Nodup := by
    obtain ⟨ks, e, hn, _⟩ := hg.keys
    have e2 : gvs.map (·.1) = giv.map (·.1) := by
      apply List.ext_getElem (by simp [h1])
      intro i a b
      simp only [List.getElem_map]
      exact (h2 i (by simpa using b) (by simpa using a)).1
    rw [e2, e]
    have hn2 : ks.Nodup := (List.nodup_append.1 hn).1
    exact List.Pairwise.map _ (fun a b hab e => hab (by omega)) hn2
  refine ⟨_, _, hJ.look hd k (by omega), ?_⟩
  rcases look_pair k giv gvs h1 (fun i a b => (h2 i a b).1) with ⟨e1, e2⟩ | ⟨i, a, b, e1, e2⟩
  · rw [e2]; exact .inl ⟨e1, rfl, rfl⟩
  · rw [e2]; exact .inr ⟨_, e1, rfl, (h2 i a b).2.1, hg.len _ (List.getElem_mem a), (h2 i a b).2.2⟩
end
structure LdW (A : Nat → Prop) (lb mb base pb qb : Nat) (fv ov rv dv : Value) (F : List FileT) (opn2 : List Nat) (file : Int) (D : List DefT) (before : Nat) (w0 : World) (outv : Value) (ord : List ByteArray) (giv : GivT) (out : List FdT) (wr : World) : Prop where
  ld : ∃ ov' rv', LdAt (fun g => A g ∨ outv.ownBlock = some g) wr lb mb base fv ov' rv' F opn2 ord giv ∧ Turn w0 ov ov' ∧ Turn w0 rv rv'
  row : FdsRow wr base outv out
  new : ∀ g, outv.ownBlock = some g → w0.heap.size ≤ g
  len : before + out.length ≤ 6000
  defs : FdsRow wr base dv (tagT file D)
  pos : Holds wr pb #[.int .i64 0, .int .i64 0, .int .i64 0] 27
  tmp : ∃ x y z, Holds wr qb #[.int .i64 x, .int .i64 y, .int .i64 z] 27
  ok : GivOk F opn2 ord giv
  keeps : Keeps (LdS lb mb ov rv) w0 wr
  low : w0.heap.size ≤ pb ∧ w0.heap.size ≤ qb ∧ pb ≠ qb
  sep : ∀ g, dv.ownBlock = some g → outv.ownBlock ≠ some g
section
variable {A : Nat → Prop} {w0 w w' : World} {lb mb base pb qb before : Nat} {fv ov rv dv outv : Value} {F : List FileT} {opn2 : List Nat} {ord : List ByteArray} {giv : GivT} {file : Int} {D : List DefT} {out : List FdT}
theorem FdsRow.side {S : Nat → Prop} {b2 : Nat} {v : Value} {l : List FdT} (r : FdsRow w b2 v l) (k : Keeps S w w') (hS : ∀ b, S b → ∃ cs, Holds w b cs 27) : FdsRow w' b2 v l := by
  have hne : ∀ {b : Nat} {cs : Array Value} {t : TypeId}, S b → Holds w b cs t → t = 27 := by
    intro b cs t hb hc
    obtain ⟨_, h2⟩ := hS b hb
    have := h2.symm.trans hc
    injection this with this; injection this with _ this; exact this.symm
  refine r.keeps k (fun g hg hs => ?_) (fun b _ hs cur => ⟨fun hc => ?_, fun hc => ?_⟩)
  · obtain ⟨_, _, hr, _⟩ := id r
    obtain ⟨_, _, cur, hb⟩ := own_lt hr hg
    exact absurd (hne hs hb) (by decide)
  · exact absurd (hne hs hc) (by decide)
  · exact absurd (hne hs hc) (by decide)
theorem LdAt.side {S : Nat → Prop} {A : Nat → Prop} {ov rv : Value} {opn : List Nat} (h : LdAt A w lb mb base fv ov rv F opn ord giv) (k : Keeps S w w') (hS : ∀ b, S b → base ≤ b ∧ ∃ cs, Holds w b cs 27) : LdAt A w' lb mb base fv ov rv F opn ord giv := by
  have hne : ∀ {b : Nat} {cs : Array Value} {t : TypeId}, S b → Holds w b cs t → t = 27 := by
    intro b cs t hb hc
    obtain ⟨_, _, h2⟩ := hS b hb
    have := h2.symm.trans hc
    injection this with this; injection this with _ this; exact this.symm
  obtain ⟨gvs, hg, h1, h2⟩ := h.giv
  refine ⟨h.holds.keeps k (fun e => absurd (hne e h.holds) (by decide)), ?_, h.low, ownsRow_keeps h.opn k (fun g hg e => ?_), ownsRow_keeps h.ord k (fun g hg e => ?_), ⟨gvs, hg.keeps k (fun e => ?_), h1, fun i hi hi2 => ⟨(h2 i hi hi2).1, (h2 i hi hi2).2.1.side k (fun b hb => (hS b hb).2), (h2 i hi hi2).2.2⟩⟩, h.lbb, h.mbb, Nat.le_trans h.size k.size⟩
  · obtain ⟨a, cap, hv, h3, h4, h5⟩ := h.files
    refine ⟨a, cap, hv, h3, h4, fun h0 => ?_⟩
    obtain ⟨g, o, rfl, hg, hc⟩ := h5 h0
    have hn : ¬ S g := fun e => by
      have e1 := (hS g e).1
      have e2 := h.low g (by rw [hv]; rfl)
      omega
    exact ⟨g, o, rfl, Nat.lt_of_lt_of_le hg k.size, fun i hi => ⟨(k.cell (p := ⟨g, o + i * 2, none⟩) hg hn).trans (hc i hi).1, (k.cell (p := ⟨g, o + i * 2 + 1, none⟩) hg hn).trans (hc i hi).2⟩⟩
  · obtain ⟨_, _, cur, hb⟩ := own_lt h.opn hg
    exact absurd (hne e hb) (by decide)
  · obtain ⟨_, _, cur, hb⟩ := own_lt h.ord hg
    exact absurd (hne e hb) (by decide)
  · obtain ⟨es, clock, hb, _⟩ := hg
    obtain ⟨_, _, h3⟩ := hS mb e
    have := hb.symm.trans h3
    injection this with this; cases this
theorem LdW.turn (h : LdW A lb mb base pb qb fv ov rv dv F opn2 file D before w0 outv ord giv out w) (hbs : base ≤ w0.heap.size) {ov' rv' ov2 rv2 : Value} {ord2 : List ByteArray} {giv2 : GivT} (hT1 : Turn w0 ov ov') (hT2 : Turn w0 rv rv') (hL : LdAt (fun g => A g ∨ outv.ownBlock = some g) w lb mb base fv ov' rv' F opn2 ord giv)
    (k : Keeps (LdS lb mb ov' rv') w w') (hL2 : LdAt (fun g => A g ∨ outv.ownBlock = some g) w' lb mb base fv ov2 rv2 F opn2 ord2 giv2) (hok : GivOk F opn2 ord2 giv2) (hT3 : Turn w ov' ov2) (hT4 : Turn w rv' rv2) (x y z : Int) :
    LdW A lb mb base pb qb fv ov rv dv F opn2 file D before w0 outv ord2 giv2 out (((w'.setCell ⟨qb, 0, none⟩ (.int .i64 x)).setCell ⟨qb, 1, none⟩ (.int .i64 y)).setCell ⟨qb, 2, none⟩ (.int .i64 z)) := by
  obtain ⟨x0, y0, z0, ht⟩ := h.tmp
  have ht' := hL.pos k ht
  have hp' := hL.pos k h.pos
  have hs := k.size
  have hs0 := h.keeps.size
  have kq : Keeps (· = qb) w' (((w'.setCell ⟨qb, 0, none⟩ (.int .i64 x)).setCell ⟨qb, 1, none⟩ (.int .i64 y)).setCell ⟨qb, 2, none⟩ (.int .i64 z)) :=
    (((Keeps.refl (· = qb) w').setCell (p := ⟨qb, 0, none⟩) (.inr rfl) _).setCell (p := ⟨qb, 1, none⟩) (.inr rfl) _).setCell (p := ⟨qb, 2, none⟩) (.inr rfl) _
  have hS : ∀ b, b = qb → base ≤ b ∧ ∃ cs, Holds w' b cs 27 := by
    rintro b rfl
    exact ⟨by have := h.low.2.1; omega, _, ht'⟩
  refine ⟨⟨ov2, rv2, hL2.side kq hS, hT1.trans hT3 hs0, hT2.trans hT4 hs0⟩, (hL.fds k h.row).side kq (fun b e => (hS b e).2), h.new, h.len, (hL.fds k h.defs).side kq (fun b e => (hS b e).2), hp'.keeps kq (fun e => h.low.2.2 e), ⟨x, y, z, ((ht'.set 0 _).set 1 _).set 2 _⟩, hok, ?_, h.low, h.sep⟩
  refine (h.keeps.trans k ?_).trans kq ?_
  · rintro i hi (e | e | e | e)
    · exact .inl e
    · exact .inr (.inl e)
    · rcases hT1 i e with e2 | e2
      · exact .inr (.inr (.inl e2))
      · omega
    · rcases hT2 i e with e2 | e2
      · exact .inr (.inr (.inr e2))
      · omega
  · rintro i hi rfl
    have := h.low.2.1
    omega
end
end Go.Proofs.YtofhcgbihonckaaGreat
namespace Go.Proofs.YtofhcgbihonckaaGreat
open Go.RowKit Go.ChangeMaps
theorem PartsRow.keep2 {w w' : World} {base : Nat} {v : Value} {ps : List PartT} {S : Nat → Prop} (h : PartsRow w base v ps) (k : Keeps S w w') (ha : ∀ b, b < w.heap.size → S b → ∀ cur, ¬ Holds w b cur 72 ∧ ¬ Holds w b cur 75) : PartsRow w' base v ps := by
  obtain ⟨us, u1, u2, u3⟩ := h
  have key : ∀ {e : TypeId} {size n : Nat} {u : Value} {xs : List Value}, w.ownsRow base e size u n xs → (e = 72 ∨ e = 75) → ∀ g, u.ownBlock = some g → ¬ S g := by
    intro e size n u xs hr he g hg hS
    obtain ⟨b1, _, cur, b2⟩ := own_lt hr hg
    rcases he with rfl | rfl
    · exact (ha g b1 hS cur).1 b2
    · exact (ha g b1 hS cur).2 b2
  exact ⟨us, u1, ownsRow_keeps u2 k (key u2 (.inr rfl)), fun i hi hi2 => ownsRow_keeps (u3 i hi hi2) k (key (u3 i hi hi2) (.inl rfl))⟩
theorem fdCells_one : ∀ (l : List FdT) (vs : List Value), (∀ u ∈ vs, u.oneCell' = true) → ∀ u ∈ fdCells l vs, u.oneCell' = true
  | [], _, _, u, hu => by cases hu
  | x :: xs, [], _, u, hu => by cases hu
  | x :: xs, v :: vs, h, u, hu => by
    simp only [fdCells, List.mem_cons] at hu
    rcases hu with rfl | rfl | rfl | rfl | rfl | rfl | rfl | hu
    · rfl
    · rfl
    · rfl
    · exact h _ List.mem_cons_self
    · rfl
    · rfl
    · rfl
    · exact fdCells_one xs vs (fun u hu => h u (List.mem_cons_of_mem _ hu)) u hu
theorem FdsRow.src {w : World} {base : Nat} {v : Value} {l : List FdT} (h : FdsRow w base v l) : ∃ us : List Value, us.length = l.length ∧ Src Tryz.prog 7 25 v l.length (fdCells l us) w ∧ ∀ k (h : k < l.length) (h2 : k < us.length), PartsRow w base us[k] l[k].2.parts := by
  obtain ⟨us, h1, h2, h3⟩ := h
  have hone : ∀ u ∈ us, u.oneCell' = true := by
    intro u hu
    obtain ⟨k, hk, rfl⟩ := List.getElem_of_mem hu
    obtain ⟨a, c, e⟩ := (h3 k (by omega) hk).slice
    rw [e]; rfl
  refine ⟨us, h1, ?_, h3⟩
  have hc := fdCells_one l us hone
  have hl := fdCells_len l us h1
  rcases id h2.2 with ⟨rfl, h0⟩ | ⟨g, cap, cur, rfl, _⟩
  · have : l = [] := List.eq_nil_of_length_eq_zero h0
    subst this
    have : us = [] := List.eq_nil_of_length_eq_zero h1
    subst this
    exact Src.ofNil w Tryz.underlying25 0
  · exact Src.ofSlice w Tryz.underlying25 _ _ _ _ hl (h2.cells (g := g) rfl) hc
section
variable {A : Nat → Prop} {w0 w : World} {lb mb base pb qb before : Nat} {fv ov rv dv outv : Value} {F : List FileT} {opn2 : List Nat} {ord : List ByteArray} {giv : GivT} {file : Int} {D : List DefT} {out : List FdT}
theorem LdW.typed (h : LdW A lb mb base pb qb fv ov rv dv F opn2 file D before w0 outv ord giv out w) {g : Nat} (hg : outv.ownBlock = some g) {cs : Array Value} {t : TypeId} (hc : Holds w g cs t) : t = 34 := by
  obtain ⟨_, _, hr, _⟩ := h.row
  obtain ⟨_, _, cur, hb⟩ := own_lt hr hg
  have := hb.symm.trans hc
  injection this with this; injection this with _ this; exact this.symm
theorem LdW.app (h : LdW A lb mb base pb qb fv ov rv dv F opn2 file D before w0 outv ord giv out w) (hbs : base ≤ w0.heap.size) {mv : Value} {m : List FdT} (hm : FdsRow w base mv m) (hl : m.length ≤ roomT before out) :
    ∃ vs us, w.ownsRow base 34 7 outv out.length (fdCells out vs) ∧ Src Tryz.prog 7 25 mv m.length (fdCells m us) w ∧ ∀ v' w', w'.ownsRow base 34 7 v' (out.length + m.length) (fdCells out vs ++ fdCells m us) → w.grownBy w' outv.ownBlock → (v'.ownBlock = outv.ownBlock ∨ v'.ownBlock = some w.heap.size) →
      LdW A lb mb base pb qb fv ov rv dv F opn2 file D before w0 v' ord giv (out ++ m) w' := by
  obtain ⟨vs, h1, h2, h3⟩ := id h.row
  obtain ⟨us, k1, k2, k3⟩ := hm.src
  refine ⟨vs, us, h2, k2, fun v' w' hown hgrow hat => ?_⟩
  have kk : Keeps (fun i => outv.ownBlock = some i) w w' := Keeps.of_grown hgrow (fun _ e => e)
  have ha : ∀ b, b < w.heap.size → outv.ownBlock = some b → ∀ cur, ¬ Holds w b cur 72 ∧ ¬ Holds w b cur 75 := fun b _ hb cur =>
    ⟨fun hc => absurd (h.typed hb hc) (by decide), fun hc => absurd (h.typed hb hc) (by decide)⟩
  obtain ⟨ov', rv', hL, hT1, hT2⟩ := h.ld
  have hnew : ∀ g, v'.ownBlock = some g → outv.ownBlock = some g ∨ w.heap.size ≤ g := by
    intro g hg
    rcases hat with e | e
    · exact .inl (e ▸ hg)
    · rw [e] at hg; cases hg; exact .inr (Nat.le_refl _)
  have hs0 := h.keeps.size
  obtain ⟨gvs, hJ, g1, g2⟩ := hL.giv
  obtain ⟨x, y, z, ht⟩ := h.tmp
  have hrow : FdsRow w' base v' (out ++ m) := FdsRow.app h1 k1 hown (fun k a b => (h3 k a b).keep2 kk ha) (fun k a b => (k3 k a b).keep2 kk ha)
  have hLd : LdAt (fun g => A g ∨ v'.ownBlock = some g) w' lb mb base fv ov' rv' F opn2 ord giv := by
    refine ⟨hL.holds.keeps kk (fun e => absurd (h.typed e hL.holds) (by decide)), ?_, hL.low, ownsRow_keeps hL.opn kk (fun g hg e => ?_), ownsRow_keeps hL.ord kk (fun g hg e => ?_), ⟨gvs, hJ.keeps kk (fun e => ?_), g1, fun i a b => ⟨(g2 i a b).1, (g2 i a b).2.1.keeps kk (fun g hg e => (g2 i a b).2.2 g hg (.inr e)) ha, fun g hg e => ?_⟩⟩, hL.lbb, hL.mbb, Nat.le_trans hL.size kk.size⟩
    · obtain ⟨a, cap, hv, h3, h4, h5⟩ := hL.files
      refine ⟨a, cap, hv, h3, h4, fun h0 => ?_⟩
      obtain ⟨g, o, rfl, hg, hc⟩ := h5 h0
      have hn : ¬ (outv.ownBlock = some g) := fun e => by
        have e1 := h.new g e
        have e2 := hL.low g (by rw [hv]; rfl)
        omega
      exact ⟨g, o, rfl, Nat.lt_of_lt_of_le hg kk.size, fun i hi => ⟨(kk.cell (p := ⟨g, o + i * 2, none⟩) hg hn).trans (hc i hi).1, (kk.cell (p := ⟨g, o + i * 2 + 1, none⟩) hg hn).trans (hc i hi).2⟩⟩
    · obtain ⟨_, _, cur, hb⟩ := own_lt hL.opn hg
      exact absurd (h.typed e hb) (by decide)
    · obtain ⟨_, _, cur, hb⟩ := own_lt hL.ord hg
      exact absurd (h.typed e hb) (by decide)
    · obtain ⟨es, clock, hb, _⟩ := hJ
      obtain ⟨_, _, cur, h3⟩ := own_lt h2 e
      have := hb.symm.trans h3
      injection this with this; cases this
    · rcases e with e | e
      · exact (g2 i a b).2.2 g hg (.inl e)
      · rcases hnew g e with e2 | e2
        · exact (g2 i a b).2.2 g hg (.inr e2)
        · obtain ⟨_, _, hr, _⟩ := (g2 i a b).2.1
          have := (own_lt hr hg).1
          omega
  refine ⟨⟨ov', rv', hLd, hT1, hT2⟩, hrow, fun g hg => ?_, by rw [List.length_append]; have := h.len; unfold roomT at hl; omega, h.defs.keeps kk (fun g hg e => h.sep g hg e) ha, h.pos.keeps kk (fun e => absurd (h.typed e h.pos) (by decide)), ⟨x, y, z, ht.keeps kk (fun e => absurd (h.typed e ht) (by decide))⟩, h.ok, h.keeps.trans kk (fun i hi e => ?_), h.low, fun g hg e => ?_⟩
  · rcases hnew g hg with e | e
    · exact h.new g e
    · omega
  · have := h.new i e; omega
  · rcases hnew g e with e2 | e2
    · exact h.sep g hg e2
    · obtain ⟨_, _, hr, _⟩ := h.defs
      have := (own_lt hr hg).1
      omega
end
section
variable {A : Nat → Prop} {w0 w : World} {lb mb base pb qb before file : Nat} {fv ov rv dv outv : Value} {F : List FileT} {opn : List Nat} {ord : List ByteArray} {giv : GivT} {D : List DefT} {out : List FdT}
end
end Go.Proofs.YtofhcgbihonckaaGreat
namespace Go.Proofs.YtofhcgbihonckaaGreat
open Go.RowKit
theorem cells_of4 {w : World} {b : Nat} {cs : Array Value} {t : TypeId} (h : Holds w b cs t) : ∀ (j : Nat) (u : Value), cs.toList[j]? = some u → w.cell? ((⟨b, 0, none⟩ : Addr).add j) = some u := by
  intro j u hj
  have hadd : (⟨b, 0, none⟩ : Addr).add j = ⟨b, j, none⟩ := by unfold Addr.add; split <;> simp_all
  rw [hadd, h.cell j]
  simpa using hj
def RP (r base : Nat) (file : Int) (L : List Tok) (lv ov : Value) (D : List DefT) (R : Rs (Nat × PartT)) (p : PartT) (w : World) : Prop := (∃ k, R = .ok (k, p) ∧ R4At w r base file L lv ov k D) ∨ ∃ k c, R = .error (k, c) ∧ R4Bad w r file L k c
theorem RP.keeps {w w' : World} {r base : Nat} {file : Int} {L : List Tok} {lv ov : Value} {D : List DefT} {R : Rs (Nat × PartT)} {p : PartT} (h : RP r base file L lv ov D R p w) (k : Keeps (fun _ => False) w w') : RP r base file L lv ov D R p w' := by
  rcases h with ⟨j, e1, e3⟩ | ⟨k', c, e1, e2⟩
  · exact .inl ⟨j, e1, e3.keeps k⟩
  · exact .inr ⟨k', c, e1, e2.keeps k (fun e => e)⟩
theorem RP.turn {W w w' : World} {r base i : Nat} {file : Int} {L : List Tok} {lv ov : Value} {D : List DefT} {R : Rs (Nat × PartT)} {p : PartT} (h : RP r base file L lv ov D R p w) (h0 : R4At W r base file L lv ov i D) (hij : ∀ k q, R = .ok (k, q) → i ≤ k) (k : Keeps (· = r) W w') (ho : ∀ {xs : Array Value}, Holds w r xs 78 → Holds w' r xs 78) : RP r base file L lv ov D R p w' := by
  rcases h with ⟨j, e1, e3⟩ | ⟨k', c, e1, e0, lv', x', ov', hx⟩
  · exact .inl ⟨j, e1, h0.turn k (ho e3.holds) e3.lt (hij j p e1)⟩
  · exact .inr ⟨k', c, e1, e0, lv', x', ov', ho hx⟩
structure PaE (r base Z : Nat) (file : Int) (L : List Tok) (lv ov cv d0 d1 d2 d4 d5 d6 : Value) (D : List DefT) (j : Nat) (acc : List PartT) (vs : List Value) (W : World) (p : PartT) (pv : Value) (B : Nat) (v8 : Value) (l : Array Bool) (w : World) : Prop where
  n3 : l.getD 3 false = false → R4At w r base file L lv ov j D
  y3 : l.getD 3 false = true → RP r base file L lv ov D (partR L j) p w ∧ CellsRow w base pv p.cells
  row : l.getD 5 false = false → w.ownsRow W.heap.size 75 3 cv acc.length (partCells acc vs)
  sub : ∀ k (h : k < acc.length) (h2 : k < vs.length), CellsRow w base vs[k] acc[k].cells
  n7 : l.getD 7 false = false → Holds w Z #[d0, d1, d2, cv, d4, d5, d6] 34
  b4 : l.getD 4 false = true → l.getD 5 false = false → Holds w B #[.int .i64 p.kind, pv, .string p.text] 75
  r5 : l.getD 5 false = true → w.ownsRow W.heap.size 75 3 v8 (acc.length + 1) (partCells acc vs ++ [.int .i64 p.kind, pv, .string p.text])
  y7 : l.getD 7 false = true → Holds w Z #[d0, d1, d2, v8, d4, d5, d6] 34
def PaF (r Z : Nat) (cv : Value) (p : PartT) (pv : Value) (B : Nat) (v8 : Value) (j : Nat) : Value → World → Prop := match j with
  | 0 => fun u _ => u = .pointer (some ⟨Z, 3, none⟩)
  | 1 => fun u _ => u = cv
  | 2 => fun u _ => u = .pointer (some ⟨r, 0, none⟩)
  | 3 => fun u _ => u = .agg #[.int .i64 p.kind, pv, .string p.text]
  | 4 => fun u _ => u = .slice (some ⟨B, 0, none⟩) 1 1
  | 5 => fun u _ => u = v8
  | 6 => fun u _ => u = .pointer (some ⟨Z, 3, none⟩)
  | _ => fun _ _ => True
section
variable {r Z B j : Nat} {cv pv v8 : Value} {p : PartT} {w w' : World} {u : Value}
theorem PaF.world (h : PaF r Z cv p pv B v8 j u w) : PaF r Z cv p pv B v8 j u w' := by
  unfold PaF at *
  split at h
  all_goals exact h
theorem PaF.gh_p {x : PartT} {y : Value} (h : PaF r Z cv p pv B v8 j u w) (n3 : j ≠ 3) : PaF r Z cv x y B v8 j u w := by
  unfold PaF at *
  split at h
  all_goals first
    | exact h
    | exact absurd rfl n3
theorem PaF.gh_B {x : Nat} (h : PaF r Z cv p pv B v8 j u w) (n4 : j ≠ 4) : PaF r Z cv p pv x v8 j u w := by
  unfold PaF at *
  split at h
  all_goals first
    | exact h
    | exact absurd rfl n4
theorem PaF.gh_v {x : Value} (h : PaF r Z cv p pv B v8 j u w) (n5 : j ≠ 5) : PaF r Z cv p pv B x j u w := by
  unfold PaF at *
  split at h
  all_goals first
    | exact h
    | exact absurd rfl n5
end
section
variable {r base Z : Nat} {file : Int} {L : List Tok} {lv ov cv d0 d1 d2 d4 d5 d6 : Value} {D : List DefT} {j : Nat} {acc : List PartT} {vs : List Value} {W : World} {p : PartT} {pv : Value} {B : Nat} {v8 : Value} {l : Array Bool} {w : World} {q : Nat}
theorem PaE.put (h : PaE r base Z file L lv ov cv d0 d1 d2 d4 d5 d6 D j acc vs W p pv B v8 l w) (n3 : q ≠ 3) (n4 : q ≠ 4) (n5 : q ≠ 5) (n7 : q ≠ 7) : PaE r base Z file L lv ov cv d0 d1 d2 d4 d5 d6 D j acc vs W p pv B v8 (l.setIfInBounds q true) w := by
  constructor
  · rw [set_other n3]; exact h.n3
  · rw [set_other n3]; exact h.y3
  · rw [set_other n5]; exact h.row
  · exact h.sub
  · rw [set_other n7]; exact h.n7
  · rw [set_other n4, set_other n5]; exact h.b4
  · rw [set_other n5]; exact h.r5
  · rw [set_other n7]; exact h.y7
end
theorem pa_rep {n j : Nat} : (Array.replicate n false).getD j false = false := by
  rw [Array.getD_eq_getD_getElem?]
  by_cases h : j < n
  · rw [Array.getElem?_replicate, if_pos h]; rfl
  · rw [Array.getElem?_replicate, if_neg h]; rfl
theorem pa_parts {w : World} {lo base : Nat} {v8 pv : Value} {acc : List PartT} {vs : List Value} {p : PartT} (hvl : vs.length = acc.length) (hrow : w.ownsRow lo 75 3 v8 (acc.length + 1) (partCells acc vs ++ [.int .i64 p.kind, pv, .string p.text])) (hsub : ∀ k (h : k < acc.length) (h2 : k < vs.length), CellsRow w base vs[k] acc[k].cells) (hC : CellsRow w base pv p.cells) : PartsAt w lo base v8 (acc ++ [p]) := by
  refine ⟨vs ++ [pv], by simp [hvl], ?_, fun m hm hm2 => ?_⟩
  · rw [partCells_snoc acc vs p _ hvl, List.length_append]
    exact hrow
  · by_cases e : m < acc.length
    · rw [List.getElem_append_left (by omega), List.getElem_append_left e]
      exact hsub m e (by omega)
    · have hml : m = acc.length := by simp at hm; omega
      subst hml
      rw [List.getElem_append_right (by omega), List.getElem_append_right (by omega)]
      simp only [hvl, Nat.sub_self, List.getElem_cons_zero]
      exact hC
noncomputable def phOps : Array Oper := (regOps (Tryz.f109.body.getD .skip) 24).getD #[]
theorem phR : inRow2 .any phOps = true := by kernel_rfl
theorem phRa : apartB phOps = true := by kernel_rfl
theorem phRn : phOps.size = 8 := by kernel_rfl
set_option maxHeartbeats 8000000 in
set_option maxRecDepth 100000 in
theorem ph_region {Q : Exit → Act → World → Prop} (r base Z : Nat) (file : Int) (L : List Tok) (lv ov cv d0 d1 d2 d4 d5 d6 : Value) (D : List DefT) (i j : Nat) (acc : List PartT) (vs : List Value) (W w : World) (A : Act) (hsz : A.tmps.size = 191)
    (h0 : R4At W r base file L lv ov i D) (hij : i ≤ j) (hw : R4At w r base file L lv ov j D) (hZ : Holds w Z #[d0, d1, d2, cv, d4, d5, d6] 34) (hZr : Z ≠ r) (hZW : W.heap.size ≤ Z) (hvl : vs.length = acc.length) (hrow : w.ownsRow W.heap.size 75 3 cv acc.length (partCells acc vs)) (hsub : ∀ k (h : k < acc.length) (h2 : k < vs.length), CellsRow w base vs[k] acc[k].cells) (hal : acc.length ≤ 10000)
    (a0 : A.tmps.getD 0 undef = .pointer (some ⟨r, 0, none⟩)) (a7 : A.tmps.getD 7 undef = .pointer (some ⟨Z, 0, none⟩)) (hS0 : Keeps (· = r) W w)
    (hQ : ∀ c w' p v8, SameBut phOps A c → Keeps (· = r) W w' → Holds w' Z #[d0, d1, d2, v8, d4, d5, d6] 34 → PartsAt w' W.heap.size base v8 (acc ++ [p]) → RP r base file L lv ov D (partR L j) p w' → Q .normal c w') :
    wpAny Tryz.prog .any phOps Q phOps.size (Array.replicate phOps.size false) A w := by
  have hlt : ∀ k q, partR L j = .ok (k, q) → i ≤ k := fun k q e => by have := part_lt e; omega
  refine wpAny_inv2 (fun l c wx => ∃ p pv B v8, RInv phOps A (PaF r Z cv p pv B v8) (fun wx => Keeps (· = r) W wx) l c wx ∧ PaE r base Z file L lv ov cv d0 d1 d2 d4 d5 d6 D j acc vs W p pv B v8 l wx) phR ?hend ?hstep _ _ _ _ (by simp) (by simp)
    ⟨⟨0, [], ⟨#[]⟩⟩, .slice none 0 0, 0, .slice none 0 0, RInv.start hS0, ⟨fun _ => hw, fun h => by rw [pa_rep] at h; (cases h), fun _ => hrow, hsub, fun _ => hZ, fun h => by rw [pa_rep] at h; (cases h), fun h => by rw [pa_rep] at h; (cases h), fun h => by rw [pa_rep] at h; (cases h)⟩⟩
  case hend =>
    rintro l c wx ⟨p, pv, B, v8, hI, hE⟩ hl
    have hh : ∀ k, k < 8 → l.getD k false = true := fun k hk => hl k (by rw [phRn]; exact hk)
    obtain ⟨q1, q2⟩ := hE.y3 (hh 3 (by decide))
    exact hQ c wx p v8 hI.1 hI.2.1 (hE.y7 (hh 7 (by decide))) (pa_parts hvl (hE.r5 (hh 5 (by decide))) hE.sub q2) q1
  intro l c wx hIx i' op ho hl hall K' hK'
  obtain ⟨p, pv, B, v8, hI, hE⟩ := hIx
  have hls : l.size = 8 := by rw [hI.2.2.1.1, phRn]
  have hi' : i' < 8 := by rw [← phRn]; exact (Array.getElem?_eq_some_iff.1 ho).1
  have ho2 := ho
  simp only [phOps, regOps, Tryz.f109, Option.getD_some, reduceIte, Nat.reduceEqDiff] at ho
  have hS := hI.2.1
  have s0 := (hI.slot 0 (by kernel_rfl)).trans a0
  have s7 := (hI.slot 7 (by kernel_rfl)).trans a7
  simp only [Array.getD_eq_getD_getElem?] at s0 s7
  have hic : i' = 0 ∨ i' = 1 ∨ i' = 2 ∨ i' = 3 ∨ i' = 4 ∨ i' = 5 ∨ i' = 6 ∨ i' = 7 := by omega
  clear hi'
  rcases hic with rfl | rfl | rfl | rfl | rfl | rfl | rfl | rfl
  all_goals cases ho
  · go_simp
    exact hK' _ _ ⟨p, pv, B, v8, hI.step phRa 0 156 rfl (by rw [hsz]; decide) _ _ ho2 hall hS (fun _ _ h => PaF.world h) rfl, hE.put (by decide) (by decide) (by decide) (by decide)⟩
  · have u7 := (hI.2.2.1.2.no_far 8 hl (by kernel_rfl : farB phOps 8 7 1 = true))
    have hz := hE.n7 u7
    have z3 := hz.cell 3
    have zl := hz.lt
    have e0 : c.tmps.getD 156 undef = .pointer (some ⟨Z, 3, none⟩) := hI.fact 0 156 rfl (listed hall 0 (by kernel_rfl))
    simp only [Array.getD_eq_getD_getElem?] at e0
    go_simp
    exact hK' _ _ ⟨p, pv, B, v8, hI.step phRa 1 157 rfl (by rw [hsz]; decide) _ _ ho2 hall hS (fun _ _ h => PaF.world h) rfl, hE.put (by decide) (by decide) (by decide) (by decide)⟩
  · go_simp
    exact hK' _ _ ⟨p, pv, B, v8, hI.step phRa 2 158 rfl (by rw [hsz]; decide) _ _ ho2 hall hS (fun _ _ h => PaF.world h) rfl, hE.put (by decide) (by decide) (by decide) (by decide)⟩
  · have hr := hE.n3 hl
    have e2 : c.tmps.getD 158 undef = .pointer (some ⟨r, 0, none⟩) := hI.fact 2 158 rfl (listed hall 2 (by kernel_rfl))
    simp only [Array.getD_eq_getD_getElem?] at e2
    have hld := r4_part2 wx r base file L lv ov j D hr
    have u4 := (hI.2.2.1.2.no_far 8 hl (by kernel_rfl : farB phOps 8 4 3 = true))
    have u5 := (hI.2.2.1.2.no_far 8 hl (by kernel_rfl : farB phOps 8 5 3 = true))
    have u7 := (hI.2.2.1.2.no_far 8 hl (by kernel_rfl : farB phOps 8 7 3 = true))
    have hro := hE.row u5
    have hz := hE.n7 u7
    go_simp
    refine hld.mono ?_
    rintro e w2 ⟨p', ca, cc, rfl, hC, hk2, hm⟩
    have hS2 := hS.trans hk2 (fun _ _ e => e)
    have hap := Apart3.one hr.holds (by decide) (by decide) (by decide)
    have hJ := hI.other (F' := PaF r Z cv p' (.slice ca p'.cells.length cc) B v8) (fun j hj u hF => PaF.gh_p hF (yes_no hj hl))
    refine hK' _ _ ⟨p', .slice ca p'.cells.length cc, B, v8, hJ.step phRa 3 159 rfl (by rw [hsz]; decide) _ _ ho2 hall hS2 (fun _ _ h => PaF.world h) rfl, ?_⟩
    constructor
    · intro h; rw [set_here (by omega)] at h; cases h
    · intro _
      refine ⟨?_, hC⟩
      unfold RP
      cases hp : partR L j with
      | ok q =>
        obtain ⟨k, q⟩ := q
        rw [hp] at hm
        obtain ⟨rfl, ha⟩ := hm
        exact .inl ⟨k, rfl, ha⟩
      | error q =>
        obtain ⟨k, c⟩ := q
        rw [hp] at hm
        exact .inr ⟨k, c, rfl, hm⟩
    · rw [set_other (show 3 ≠ 5 by decide)]; intro _; exact ownsRow_keeps hro hk2 (own_apart hro hap (.inr (.inl rfl)))
    · exact fun k h h2 => (hE.sub k h h2).keeps hk2 hap
    · rw [set_other (show 3 ≠ 7 by decide)]; intro _; exact hz.keeps hk2 hZr
    · rw [set_other (show 3 ≠ 4 by decide)]; intro a; rw [u4] at a; cases a
    · rw [set_other (show 3 ≠ 5 by decide)]; intro a; rw [u5] at a; cases a
    · rw [set_other (show 3 ≠ 7 by decide)]; intro a; rw [u7] at a; cases a
  · have u5 := (hI.2.2.1.2.no_far 8 hl (by kernel_rfl : farB phOps 8 5 4 = true))
    have u7 := (hI.2.2.1.2.no_far 8 hl (by kernel_rfl : farB phOps 8 7 4 = true))
    have y3 := listed hall 3 (by kernel_rfl)
    have e3 : c.tmps.getD 159 undef = .agg #[.int .i64 p.kind, pv, .string p.text] := hI.fact 3 159 rfl (listed hall 3 (by kernel_rfl))
    simp only [Array.getD_eq_getD_getElem?] at e3
    obtain ⟨q1, q2⟩ := hE.y3 y3
    have hro := hE.row u5
    have hz := hE.n7 u7
    obtain ⟨pa, pc, rfl⟩ := q2.slice
    go_simp
    have hk2 : Keeps (fun _ => False) wx (wx.alloc (.cells #[.int .i64 p.kind, .slice pa p.cells.length pc, .string p.text] 75)) := (Keeps.refl _ wx).alloc _
    have hS2 := hS.trans hk2 (fun _ _ e => e.elim)
    have hJ := hI.other (F' := PaF r Z cv p (.slice pa p.cells.length pc) wx.heap.size v8) (fun j hj u hF => PaF.gh_B hF (yes_no hj hl))
    refine hK' _ _ ⟨p, _, wx.heap.size, v8, hJ.step phRa 4 160 rfl (by rw [hsz]; decide) _ _ ho2 hall hS2 (fun _ _ h => PaF.world h) rfl, ?_⟩
    constructor
    · rw [set_other (show 4 ≠ 3 by decide)]; intro a; rw [y3] at a; cases a
    · intro _; exact ⟨q1.keeps hk2, q2.keeps hk2 (Apart3.nil _)⟩
    · rw [set_other (show 4 ≠ 5 by decide)]; intro _; exact ownsRow_keeps hro hk2 (fun _ _ e => e)
    · exact fun k h h2 => (hE.sub k h h2).keeps hk2 (Apart3.nil _)
    · rw [set_other (show 4 ≠ 7 by decide)]; intro _; exact hz.keeps hk2 (fun e => e)
    · intro _ _; exact Holds.new _ _ _
    · rw [set_other (show 4 ≠ 5 by decide)]; intro a; rw [u5] at a; cases a
    · rw [set_other (show 4 ≠ 7 by decide)]; intro a; rw [u7] at a; cases a
  · have u7 := (hI.2.2.1.2.no_far 8 hl (by kernel_rfl : farB phOps 8 7 5 = true))
    have y3 : l.getD 3 false = true := (hI.2.2.1.2.yes_far 8 ho2 hall (by decide) (by kernel_rfl))
    have y4 := listed hall 4 (by kernel_rfl)
    have e1 : c.tmps.getD 157 undef = cv := hI.fact 1 157 rfl (listed hall 1 (by kernel_rfl))
    simp only [Array.getD_eq_getD_getElem?] at e1
    have e4 : c.tmps.getD 160 undef = .slice (some ⟨B, 0, none⟩) 1 1 := hI.fact 4 160 rfl (listed hall 4 (by kernel_rfl))
    simp only [Array.getD_eq_getD_getElem?] at e4
    obtain ⟨q1, q2⟩ := hE.y3 y3
    have hro := hE.row hl
    have hz := hE.n7 u7
    have hb := hE.b4 y4 hl
    obtain ⟨pa, pc, rfl⟩ := q2.slice
    obtain ⟨i0, hin, hz0, hz1, hz2⟩ := info_parts infoPart
    have hsrc : Src Tryz.prog 3 32 (.slice (some ⟨B, 0, none⟩) 1 1) 1 [.int .i64 p.kind, .slice pa p.cells.length pc, .string p.text] wx := Src.ofSlice _ Tryz.underlying32 _ 1 1 _ rfl (cells_of4 hb) (fun u hu => by simp at hu; rcases hu with rfl | rfl | rfl <;> rfl)
    refine step_append_src _ rfl _ _ 32 32 rfl W.heap.size 75 i0 _ 3 48 Tryz.underlying32 hin hz0 hz1 hz2 rfl cv acc.length (partCells acc vs) (by simpa [Act.eval] using e1) hro (.slice (some ⟨B, 0, none⟩) 1 1) (by simpa [Act.eval] using e4) 1 [.int .i64 p.kind, .slice pa p.cells.length pc, .string p.text] hsrc (by unfold maxLen; omega) (by omega) hS.size ?_
    intro v' w2 hown hgrow hat
    have kg : Keeps (fun b => cv.ownBlock = some b) wx w2 := Keeps.of_grown hgrow (fun i e => e)
    have hS2 : Keeps (· = r) W w2 := hS.grown hgrow (fun g hg => by have := (own_lt hro hg).2.1; left; omega)
    have hcs : ∀ (v : Value) (cs : List CellT), CellsRow wx base v cs → CellsRow w2 base v cs := fun v cs hc => ownsRow_keeps hc kg (fun g hg e => by
      obtain ⟨_, _, cur, q⟩ := own_lt hro e
      exact owns_ne hc q (by decide) hg)
    have hJ := hI.other (F' := PaF r Z cv p (.slice pa p.cells.length pc) B v') (fun j hj u hF => PaF.gh_v hF (yes_no hj hl))
    refine hK' _ _ ⟨p, _, B, v', hJ.step phRa 5 161 rfl (by rw [hsz]; decide) _ _ ho2 hall hS2 (fun _ _ h => PaF.world h) rfl, ?_⟩
    constructor
    · rw [set_other (show 5 ≠ 3 by decide)]; intro a; rw [y3] at a; cases a
    · intro _; exact ⟨q1.turn h0 hlt hS2 (fun hx => hx.keeps kg (owns_ne hro hx (by decide))), hcs _ _ q2⟩
    · intro a; rw [set_here (by omega)] at a; cases a
    · exact fun k h h2 => hcs _ _ (hE.sub k h h2)
    · rw [set_other (show 5 ≠ 7 by decide)]; intro _; exact hz.keeps kg (owns_ne hro hz (by decide))
    · intro _ a; rw [set_here (by omega)] at a; cases a
    · intro _; exact hown
    · rw [set_other (show 5 ≠ 7 by decide)]; intro a; rw [u7] at a; cases a
  · go_simp
    exact hK' _ _ ⟨p, pv, B, v8, hI.step phRa 6 162 rfl (by rw [hsz]; decide) _ _ ho2 hall hS (fun _ _ h => PaF.world h) rfl, hE.put (by decide) (by decide) (by decide) (by decide)⟩
  · have y5 := listed hall 5 (by kernel_rfl)
    have y3 : l.getD 3 false = true := (hI.2.2.1.2.yes_far 8 ho2 hall (by decide) (by kernel_rfl))
    have e5 : c.tmps.getD 161 undef = v8 := hI.fact 5 161 rfl (listed hall 5 (by kernel_rfl))
    simp only [Array.getD_eq_getD_getElem?] at e5
    have e6 : c.tmps.getD 162 undef = .pointer (some ⟨Z, 3, none⟩) := hI.fact 6 162 rfl (listed hall 6 (by kernel_rfl))
    simp only [Array.getD_eq_getD_getElem?] at e6
    have hr8 := hE.r5 y5
    obtain ⟨q1, q2⟩ := hE.y3 y3
    have hz := hE.n7 hl
    obtain ⟨va, vc, rfl⟩ := row_slice hr8
    have z3 := hz.cell 3
    have zf := hz.free 3
    have zl := hz.lt
    go_simp
    have hk2 : Keeps (· = Z) wx (wx.setCell ⟨Z, 3, none⟩ (.slice va (acc.length + 1) vc)) := (Keeps.refl (· = Z) wx).setCell (p := ⟨Z, 3, none⟩) (.inr rfl) _
    have hS2 : Keeps (· = r) W (wx.setCell ⟨Z, 3, none⟩ (.slice va (acc.length + 1) vc)) := hS.setCell (p := ⟨Z, 3, none⟩) (.inl hZW) _
    have hfin := hz.set 3 (.slice va (acc.length + 1) vc)
    have hcs : ∀ (v : Value) (cs : List CellT), CellsRow wx base v cs → CellsRow (wx.setCell ⟨Z, 3, none⟩ (.slice va (acc.length + 1) vc)) base v cs := fun v cs hc => ownsRow_keeps hc hk2 (fun g hg e => by cases e; exact owns_ne hc hz (by decide) hg)
    refine hK' _ _ ⟨p, pv, B, _, hI.stepN 7 rfl _ ho2 hall hS2 (fun _ _ h => PaF.world h) trivial, ?_⟩
    constructor
    · rw [set_other (show 7 ≠ 3 by decide)]; intro a; rw [y3] at a; cases a
    · intro _; exact ⟨q1.turn h0 hlt hS2 (fun hx => hx.keeps hk2 (fun e => hZr e.symm)), hcs _ _ q2⟩
    · rw [set_other (show 7 ≠ 5 by decide)]; intro a; rw [y5] at a; cases a
    · exact fun k h h2 => hcs _ _ (hE.sub k h h2)
    · intro a; rw [set_here (by omega)] at a; cases a
    · rw [set_other (show 7 ≠ 4 by decide), set_other (show 7 ≠ 5 by decide)]; intro _ a; rw [y5] at a; cases a
    · intro _; exact ownsRow_keeps hr8 hk2 (fun g hg e => by cases e; exact owns_ne hr8 hz (by decide) hg)
    · intro _; exact hfin
end Go.Proofs.YtofhcgbihonckaaGreat
namespace Go.Proofs.YtofhcgbihonckaaGreat
open Go.RowKit
noncomputable def pi4Ops : Array Oper := (regOps (Tryz.f109.body.getD .skip) 27).getD #[]
theorem pi4R : inRow2 .any pi4Ops = true := by kernel_rfl
theorem pi4Ra : apartB pi4Ops = true := by kernel_rfl
theorem pi4Rn : pi4Ops.size = 8 := by kernel_rfl
set_option maxHeartbeats 8000000 in
set_option maxRecDepth 100000 in
theorem pi4_region {Q : Exit → Act → World → Prop} (r base Z : Nat) (file : Int) (L : List Tok) (lv ov cv d0 d1 d2 d4 d5 d6 : Value) (D : List DefT) (i j : Nat) (acc : List PartT) (vs : List Value) (W w : World) (A : Act) (hsz : A.tmps.size = 191)
    (h0 : R4At W r base file L lv ov i D) (hij : i ≤ j) (hw : R4At w r base file L lv ov j D) (hZ : Holds w Z #[d0, d1, d2, cv, d4, d5, d6] 34) (hZr : Z ≠ r) (hZW : W.heap.size ≤ Z) (hvl : vs.length = acc.length) (hrow : w.ownsRow W.heap.size 75 3 cv acc.length (partCells acc vs)) (hsub : ∀ k (h : k < acc.length) (h2 : k < vs.length), CellsRow w base vs[k] acc[k].cells) (hal : acc.length ≤ 10000)
    (a0 : A.tmps.getD 0 undef = .pointer (some ⟨r, 0, none⟩)) (a7 : A.tmps.getD 7 undef = .pointer (some ⟨Z, 0, none⟩)) (hS0 : Keeps (· = r) W w)
    (hQ : ∀ c w' p v8, SameBut pi4Ops A c → Keeps (· = r) W w' → Holds w' Z #[d0, d1, d2, v8, d4, d5, d6] 34 → PartsAt w' W.heap.size base v8 (acc ++ [p]) → RP r base file L lv ov D (partR L j) p w' → Q .normal c w') :
    wpAny Tryz.prog .any pi4Ops Q pi4Ops.size (Array.replicate pi4Ops.size false) A w := by
  have hlt : ∀ k q, partR L j = .ok (k, q) → i ≤ k := fun k q e => by have := part_lt e; omega
  refine wpAny_inv2 (fun l c wx => ∃ p pv B v8, RInv pi4Ops A (PaF r Z cv p pv B v8) (fun wx => Keeps (· = r) W wx) l c wx ∧ PaE r base Z file L lv ov cv d0 d1 d2 d4 d5 d6 D j acc vs W p pv B v8 l wx) pi4R ?hend ?hstep _ _ _ _ (by simp) (by simp)
    ⟨⟨0, [], ⟨#[]⟩⟩, .slice none 0 0, 0, .slice none 0 0, RInv.start hS0, ⟨fun _ => hw, fun h => by rw [pa_rep] at h; (cases h), fun _ => hrow, hsub, fun _ => hZ, fun h => by rw [pa_rep] at h; (cases h), fun h => by rw [pa_rep] at h; (cases h), fun h => by rw [pa_rep] at h; (cases h)⟩⟩
  case hend =>
    rintro l c wx ⟨p, pv, B, v8, hI, hE⟩ hl
    have hh : ∀ k, k < 8 → l.getD k false = true := fun k hk => hl k (by rw [pi4Rn]; exact hk)
    obtain ⟨q1, q2⟩ := hE.y3 (hh 3 (by decide))
    exact hQ c wx p v8 hI.1 hI.2.1 (hE.y7 (hh 7 (by decide))) (pa_parts hvl (hE.r5 (hh 5 (by decide))) hE.sub q2) q1
  intro l c wx hIx i' op ho hl hall K' hK'
  obtain ⟨p, pv, B, v8, hI, hE⟩ := hIx
  have hls : l.size = 8 := by rw [hI.2.2.1.1, pi4Rn]
  have hi' : i' < 8 := by rw [← pi4Rn]; exact (Array.getElem?_eq_some_iff.1 ho).1
  have ho2 := ho
  simp only [pi4Ops, regOps, Tryz.f109, Option.getD_some, reduceIte, Nat.reduceEqDiff] at ho
  have hS := hI.2.1
  have s0 := (hI.slot 0 (by kernel_rfl)).trans a0
  have s7 := (hI.slot 7 (by kernel_rfl)).trans a7
  simp only [Array.getD_eq_getD_getElem?] at s0 s7
  have hic : i' = 0 ∨ i' = 1 ∨ i' = 2 ∨ i' = 3 ∨ i' = 4 ∨ i' = 5 ∨ i' = 6 ∨ i' = 7 := by omega
  clear hi'
  rcases hic with rfl | rfl | rfl | rfl | rfl | rfl | rfl | rfl
  all_goals cases ho
  · go_simp
    exact hK' _ _ ⟨p, pv, B, v8, hI.step pi4Ra 0 179 rfl (by rw [hsz]; decide) _ _ ho2 hall hS (fun _ _ h => PaF.world h) rfl, hE.put (by decide) (by decide) (by decide) (by decide)⟩
  · have u7 := (hI.2.2.1.2.no_far 8 hl (by kernel_rfl : farB pi4Ops 8 7 1 = true))
    have hz := hE.n7 u7
    have z3 := hz.cell 3
    have zl := hz.lt
    have e0 : c.tmps.getD 179 undef = .pointer (some ⟨Z, 3, none⟩) := hI.fact 0 179 rfl (listed hall 0 (by kernel_rfl))
    simp only [Array.getD_eq_getD_getElem?] at e0
    go_simp
    exact hK' _ _ ⟨p, pv, B, v8, hI.step pi4Ra 1 180 rfl (by rw [hsz]; decide) _ _ ho2 hall hS (fun _ _ h => PaF.world h) rfl, hE.put (by decide) (by decide) (by decide) (by decide)⟩
  · go_simp
    exact hK' _ _ ⟨p, pv, B, v8, hI.step pi4Ra 2 181 rfl (by rw [hsz]; decide) _ _ ho2 hall hS (fun _ _ h => PaF.world h) rfl, hE.put (by decide) (by decide) (by decide) (by decide)⟩
  · have hr := hE.n3 hl
    have e2 : c.tmps.getD 181 undef = .pointer (some ⟨r, 0, none⟩) := hI.fact 2 181 rfl (listed hall 2 (by kernel_rfl))
    simp only [Array.getD_eq_getD_getElem?] at e2
    have hld := r4_part2 wx r base file L lv ov j D hr
    have u4 := (hI.2.2.1.2.no_far 8 hl (by kernel_rfl : farB pi4Ops 8 4 3 = true))
    have u5 := (hI.2.2.1.2.no_far 8 hl (by kernel_rfl : farB pi4Ops 8 5 3 = true))
    have u7 := (hI.2.2.1.2.no_far 8 hl (by kernel_rfl : farB pi4Ops 8 7 3 = true))
    have hro := hE.row u5
    have hz := hE.n7 u7
    go_simp
    refine hld.mono ?_
    rintro e w2 ⟨p', ca, cc, rfl, hC, hk2, hm⟩
    have hS2 := hS.trans hk2 (fun _ _ e => e)
    have hap := Apart3.one hr.holds (by decide) (by decide) (by decide)
    have hJ := hI.other (F' := PaF r Z cv p' (.slice ca p'.cells.length cc) B v8) (fun j hj u hF => PaF.gh_p hF (yes_no hj hl))
    refine hK' _ _ ⟨p', .slice ca p'.cells.length cc, B, v8, hJ.step pi4Ra 3 182 rfl (by rw [hsz]; decide) _ _ ho2 hall hS2 (fun _ _ h => PaF.world h) rfl, ?_⟩
    constructor
    · intro h; rw [set_here (by omega)] at h; cases h
    · intro _
      refine ⟨?_, hC⟩
      unfold RP
      cases hp : partR L j with
      | ok q =>
        obtain ⟨k, q⟩ := q
        rw [hp] at hm
        obtain ⟨rfl, ha⟩ := hm
        exact .inl ⟨k, rfl, ha⟩
      | error q =>
        obtain ⟨k, c⟩ := q
        rw [hp] at hm
        exact .inr ⟨k, c, rfl, hm⟩
    · rw [set_other (show 3 ≠ 5 by decide)]; intro _; exact ownsRow_keeps hro hk2 (own_apart hro hap (.inr (.inl rfl)))
    · exact fun k h h2 => (hE.sub k h h2).keeps hk2 hap
    · rw [set_other (show 3 ≠ 7 by decide)]; intro _; exact hz.keeps hk2 hZr
    · rw [set_other (show 3 ≠ 4 by decide)]; intro a; rw [u4] at a; cases a
    · rw [set_other (show 3 ≠ 5 by decide)]; intro a; rw [u5] at a; cases a
    · rw [set_other (show 3 ≠ 7 by decide)]; intro a; rw [u7] at a; cases a
  · have u5 := (hI.2.2.1.2.no_far 8 hl (by kernel_rfl : farB pi4Ops 8 5 4 = true))
    have u7 := (hI.2.2.1.2.no_far 8 hl (by kernel_rfl : farB pi4Ops 8 7 4 = true))
    have y3 := listed hall 3 (by kernel_rfl)
    have e3 : c.tmps.getD 182 undef = .agg #[.int .i64 p.kind, pv, .string p.text] := hI.fact 3 182 rfl (listed hall 3 (by kernel_rfl))
    simp only [Array.getD_eq_getD_getElem?] at e3
    obtain ⟨q1, q2⟩ := hE.y3 y3
    have hro := hE.row u5
    have hz := hE.n7 u7
    obtain ⟨pa, pc, rfl⟩ := q2.slice
    go_simp
    have hk2 : Keeps (fun _ => False) wx (wx.alloc (.cells #[.int .i64 p.kind, .slice pa p.cells.length pc, .string p.text] 75)) := (Keeps.refl _ wx).alloc _
    have hS2 := hS.trans hk2 (fun _ _ e => e.elim)
    have hJ := hI.other (F' := PaF r Z cv p (.slice pa p.cells.length pc) wx.heap.size v8) (fun j hj u hF => PaF.gh_B hF (yes_no hj hl))
    refine hK' _ _ ⟨p, _, wx.heap.size, v8, hJ.step pi4Ra 4 183 rfl (by rw [hsz]; decide) _ _ ho2 hall hS2 (fun _ _ h => PaF.world h) rfl, ?_⟩
    constructor
    · rw [set_other (show 4 ≠ 3 by decide)]; intro a; rw [y3] at a; cases a
    · intro _; exact ⟨q1.keeps hk2, q2.keeps hk2 (Apart3.nil _)⟩
    · rw [set_other (show 4 ≠ 5 by decide)]; intro _; exact ownsRow_keeps hro hk2 (fun _ _ e => e)
    · exact fun k h h2 => (hE.sub k h h2).keeps hk2 (Apart3.nil _)
    · rw [set_other (show 4 ≠ 7 by decide)]; intro _; exact hz.keeps hk2 (fun e => e)
    · intro _ _; exact Holds.new _ _ _
    · rw [set_other (show 4 ≠ 5 by decide)]; intro a; rw [u5] at a; cases a
    · rw [set_other (show 4 ≠ 7 by decide)]; intro a; rw [u7] at a; cases a
  · have u7 := (hI.2.2.1.2.no_far 8 hl (by kernel_rfl : farB pi4Ops 8 7 5 = true))
    have y3 : l.getD 3 false = true := (hI.2.2.1.2.yes_far 8 ho2 hall (by decide) (by kernel_rfl))
    have y4 := listed hall 4 (by kernel_rfl)
    have e1 : c.tmps.getD 180 undef = cv := hI.fact 1 180 rfl (listed hall 1 (by kernel_rfl))
    simp only [Array.getD_eq_getD_getElem?] at e1
    have e4 : c.tmps.getD 183 undef = .slice (some ⟨B, 0, none⟩) 1 1 := hI.fact 4 183 rfl (listed hall 4 (by kernel_rfl))
    simp only [Array.getD_eq_getD_getElem?] at e4
    obtain ⟨q1, q2⟩ := hE.y3 y3
    have hro := hE.row hl
    have hz := hE.n7 u7
    have hb := hE.b4 y4 hl
    obtain ⟨pa, pc, rfl⟩ := q2.slice
    obtain ⟨i0, hin, hz0, hz1, hz2⟩ := info_parts infoPart
    have hsrc : Src Tryz.prog 3 32 (.slice (some ⟨B, 0, none⟩) 1 1) 1 [.int .i64 p.kind, .slice pa p.cells.length pc, .string p.text] wx := Src.ofSlice _ Tryz.underlying32 _ 1 1 _ rfl (cells_of4 hb) (fun u hu => by simp at hu; rcases hu with rfl | rfl | rfl <;> rfl)
    refine step_append_src _ rfl _ _ 32 32 rfl W.heap.size 75 i0 _ 3 48 Tryz.underlying32 hin hz0 hz1 hz2 rfl cv acc.length (partCells acc vs) (by simpa [Act.eval] using e1) hro (.slice (some ⟨B, 0, none⟩) 1 1) (by simpa [Act.eval] using e4) 1 [.int .i64 p.kind, .slice pa p.cells.length pc, .string p.text] hsrc (by unfold maxLen; omega) (by omega) hS.size ?_
    intro v' w2 hown hgrow hat
    have kg : Keeps (fun b => cv.ownBlock = some b) wx w2 := Keeps.of_grown hgrow (fun i e => e)
    have hS2 : Keeps (· = r) W w2 := hS.grown hgrow (fun g hg => by have := (own_lt hro hg).2.1; left; omega)
    have hcs : ∀ (v : Value) (cs : List CellT), CellsRow wx base v cs → CellsRow w2 base v cs := fun v cs hc => ownsRow_keeps hc kg (fun g hg e => by
      obtain ⟨_, _, cur, q⟩ := own_lt hro e
      exact owns_ne hc q (by decide) hg)
    have hJ := hI.other (F' := PaF r Z cv p (.slice pa p.cells.length pc) B v') (fun j hj u hF => PaF.gh_v hF (yes_no hj hl))
    refine hK' _ _ ⟨p, _, B, v', hJ.step pi4Ra 5 184 rfl (by rw [hsz]; decide) _ _ ho2 hall hS2 (fun _ _ h => PaF.world h) rfl, ?_⟩
    constructor
    · rw [set_other (show 5 ≠ 3 by decide)]; intro a; rw [y3] at a; cases a
    · intro _; exact ⟨q1.turn h0 hlt hS2 (fun hx => hx.keeps kg (owns_ne hro hx (by decide))), hcs _ _ q2⟩
    · intro a; rw [set_here (by omega)] at a; cases a
    · exact fun k h h2 => hcs _ _ (hE.sub k h h2)
    · rw [set_other (show 5 ≠ 7 by decide)]; intro _; exact hz.keeps kg (owns_ne hro hz (by decide))
    · intro _ a; rw [set_here (by omega)] at a; cases a
    · intro _; exact hown
    · rw [set_other (show 5 ≠ 7 by decide)]; intro a; rw [u7] at a; cases a
  · go_simp
    exact hK' _ _ ⟨p, pv, B, v8, hI.step pi4Ra 6 185 rfl (by rw [hsz]; decide) _ _ ho2 hall hS (fun _ _ h => PaF.world h) rfl, hE.put (by decide) (by decide) (by decide) (by decide)⟩
  · have y5 := listed hall 5 (by kernel_rfl)
    have y3 : l.getD 3 false = true := (hI.2.2.1.2.yes_far 8 ho2 hall (by decide) (by kernel_rfl))
    have e5 : c.tmps.getD 184 undef = v8 := hI.fact 5 184 rfl (listed hall 5 (by kernel_rfl))
    simp only [Array.getD_eq_getD_getElem?] at e5
    have e6 : c.tmps.getD 185 undef = .pointer (some ⟨Z, 3, none⟩) := hI.fact 6 185 rfl (listed hall 6 (by kernel_rfl))
    simp only [Array.getD_eq_getD_getElem?] at e6
    have hr8 := hE.r5 y5
    obtain ⟨q1, q2⟩ := hE.y3 y3
    have hz := hE.n7 hl
    obtain ⟨va, vc, rfl⟩ := row_slice hr8
    have z3 := hz.cell 3
    have zf := hz.free 3
    have zl := hz.lt
    go_simp
    have hk2 : Keeps (· = Z) wx (wx.setCell ⟨Z, 3, none⟩ (.slice va (acc.length + 1) vc)) := (Keeps.refl (· = Z) wx).setCell (p := ⟨Z, 3, none⟩) (.inr rfl) _
    have hS2 : Keeps (· = r) W (wx.setCell ⟨Z, 3, none⟩ (.slice va (acc.length + 1) vc)) := hS.setCell (p := ⟨Z, 3, none⟩) (.inl hZW) _
    have hfin := hz.set 3 (.slice va (acc.length + 1) vc)
    have hcs : ∀ (v : Value) (cs : List CellT), CellsRow wx base v cs → CellsRow (wx.setCell ⟨Z, 3, none⟩ (.slice va (acc.length + 1) vc)) base v cs := fun v cs hc => ownsRow_keeps hc hk2 (fun g hg e => by cases e; exact owns_ne hc hz (by decide) hg)
    refine hK' _ _ ⟨p, pv, B, _, hI.stepN 7 rfl _ ho2 hall hS2 (fun _ _ h => PaF.world h) trivial, ?_⟩
    constructor
    · rw [set_other (show 7 ≠ 3 by decide)]; intro a; rw [y3] at a; cases a
    · intro _; exact ⟨q1.turn h0 hlt hS2 (fun hx => hx.keeps hk2 (fun e => hZr e.symm)), hcs _ _ q2⟩
    · rw [set_other (show 7 ≠ 5 by decide)]; intro a; rw [y5] at a; cases a
    · exact fun k h h2 => hcs _ _ (hE.sub k h h2)
    · intro a; rw [set_here (by omega)] at a; cases a
    · rw [set_other (show 7 ≠ 4 by decide), set_other (show 7 ≠ 5 by decide)]; intro _ a; rw [y5] at a; cases a
    · intro _; exact ownsRow_keeps hr8 hk2 (fun g hg e => by cases e; exact owns_ne hr8 hz (by decide) hg)
    · intro _; exact hfin
end Go.Proofs.YtofhcgbihonckaaGreat
namespace Go.Proofs.YtofhcgbihonckaaGreat
open Go.RowKit
def propR (R : Rs (Nat × List PartT)) (X : ByteArray) (l c : Int) : Rs (Nat × List DefT) := match R with
  | .error e => .error e
  | .ok (j, ps) => .ok (j, [⟨3, ⟨#[]⟩, X, ps, l, c⟩])
theorem named_prop {L : List Tok} {n dp i : Nat} (hb : isK L (i + 1) 4 [123] = false) : srcE L (n + 1) (.named dp) i = (if propT (tkN L i).text = true then propR (partsR L (fuelP L) [61] (i + 1) []) (txN L i) (tkN L i).line (tkN L i).col else .error (i, 1)) := by
  rw [srcE, if_neg (by rw [hb]; exact Bool.false_ne_true)]
  rfl
theorem isK_not {L : List Tok} {i : Nat} {s : List UInt8} (hs : s ≠ []) (h : isK L i 4 s = false) : (tkN L i).kind ≠ 4 ∨ (tkN L i).text ≠ s := by
  unfold isK at h
  have hie : s.isEmpty = false := by simpa using hs
  rw [hie, Bool.false_or, Bool.and_eq_false_iff, decide_eq_false_iff_not, decide_eq_false_iff_not] at h
  exact h
set_option maxRecDepth 100000 in
set_option maxHeartbeats 4000000 in
theorem r4_member_propA (r base : Nat) (file : Int) (L : List Tok) (lv : Value) (n : Nat) (w : World) (ov : Value) (i : Nat) (D : List DefT) (h : R4At w r base file L lv ov i D) (dp : Nat) (hdp : dp ≤ 50) (hk : (tkN L i).kind = 1) (hb : isK L (i + 1) 4 [123] = false) (hcD : D.length ≤ 2 * i) (hc : (tkN L (i + 1)).kind ≠ 4) :
    Calls Tryz.prog 109 #[.pointer (some ⟨r, 0, none⟩), .int .i64 (dp : Int)] w (R4Out r base file L lv D (srcE L (n + 2) (.member dp) i) w) := by
  rw [member_name hk, named_prop hb]
  obtain ⟨c0, c1, c2, c3, _, _, _, f1, f2, f3, _, _, _, cl⟩ := h.cells
  obtain ⟨n1, n2⟩ := h.num
  have HH := Lib.hid h
  have HNX := Lib.hid (h.ok.next h.lt (by rw [hk]; decide))
  obtain ⟨g, cap, rfl, hg, d0, d1, d2, d3, d4, d5⟩ := h.toks.at h.lt
  have gl : g < w.heap.size := World.block_lt_of_cell? w _ d0
  rw [hk] at d0
  obtain ⟨tl, htl⟩ : ∃ t, t = (tkN L i).line := ⟨_, rfl⟩
  obtain ⟨tc, htc⟩ : ∃ t, t = (tkN L i).col := ⟨_, rfl⟩
  rw [← htl] at d4
  rw [← htc] at d5
  have HTL := Lib.hid htl
  have HTC := Lib.hid htc
  clear htl htc
  have hN := Holds.new w #[.int .i64 0, .int .i64 0, .int .i64 0] 27
  have hbl : Below w.heap.size w (w.alloc (.cells #[.int .i64 0, .int .i64 0, .int .i64 0] 27)) := (Below.refl _ _).alloc (Nat.le_refl _) _
  have c0' := (hbl.cell cl).trans c0
  have c1' := (hbl.cell cl).trans c1
  have d3' := (hbl.cell gl).trans d3
  have d4' := (hbl.cell gl).trans d4
  have d5' := (hbl.cell gl).trans d5
  obtain ⟨m0, m1, m2, mf0, mf1, mf2, ml⟩ := three hN
  have hM := (Holds.new w #[.int .i64 file, .int .i64 tl, .int .i64 tc] 27).drew
  have hk3 : Keeps (fun _ => False) w (w.alloc (.cells #[.int .i64 file, .int .i64 tl, .int .i64 tc] 27)).drew := ((Keeps.refl _ w).alloc _).drew
  have h3 := h.keeps hk3
  obtain ⟨x0, x1, x2, _, _, _, xl⟩ := three hM
  obtain ⟨y0, y1, _, y3, _, _, _, z1, _, z3, _, _, _, yl⟩ := h3.cells
  have e0 := (hk3.cell (p := ⟨g, i * 6, none⟩) gl (fun e => e)).trans d0
  have gl3 := Nat.lt_of_lt_of_le gl hk3.size
  have H3 := Lib.hid h3
  have HK3 := Lib.hid hk3
  have HM := Lib.hid hM
  have HWD := Lib.hid (fun wx hx => r4_word2 wx r base file L (.slice (some ⟨g, 0, none⟩) L.length cap) ov i D hx 1 (by decide))
  have HNK := Lib.hid hc
  have HT := Lib.hid (show takenR L 1 (rightH 2) i = if propT (tkN L i).text = true then .ok (i + 1) else .error (i, 1) from by unfold takenR; rw [if_pos hk]; rfl)
  obtain ⟨T, hT⟩ : ∃ T, T = takenR L 1 (rightH 2) i := ⟨_, rfl⟩
  rw [← hT] at HWD HT
  obtain ⟨PR, hPR⟩ : ∃ R, R = partsR L (fuelP L) [61] (i + 1) [] := ⟨_, rfl⟩
  rw [← hPR]
  obtain ⟨X, hX⟩ : ∃ X, X = txN L i := ⟨_, rfl⟩
  rw [← hX]
  unfold R4WordOut at HWD
  rw [← hX] at HWD
  have hdp1 : (dp : Int) ≤ 50 := by omega
  have hRR : (if propT (tkN L i).text = true then propR PR X (tkN L i).line (tkN L i).col else .error (i, 1)) = seqR T (propR PR X (tkN L i).line (tkN L i).col) := by
    rw [HT.out]
    split <;> rfl
  rw [hRR, ← HTL.out, ← HTC.out]
  have hj2 : ∀ j, T = .ok j → j = i + 1 := fun j e => by
    have h9 := HT.out
    rw [e] at h9
    split at h9
    · injection h9
    · cases h9
  have HJ2 := Lib.hid hj2
  have HCD := Lib.hid hcD
  have HPR := Lib.hid hPR
  have hPr : w.heap.size ≠ r := by omega
  have HLOW := Lib.hid (show ∀ b, b < base → ¬ b = r from fun b hb e => by have := h.low; omega)
  clear h hk hb hc hN hbl hM hk3 h3 hT HT hRR hPR hX hj2 hcD
  have HWU : Hid (∀ wx, R4At wx r base file L (.slice (some ⟨g, 0, none⟩) L.length cap) ov i D → Calls Tryz.prog 65 #[.pointer (some ⟨r, 0, none⟩), .int .i64 1, .int .i64 2] wx fun e w' => ∃ Y : ByteArray, Keeps (· = r) wx w' ∧ e = .returned (.string Y) ∧ RT r base file L (.slice (some ⟨g, 0, none⟩) L.length cap) ov D T X Y w') := Lib.hid (fun wx hx => by
    refine (HWD.out wx hx).mono ?_
    rintro e w' ⟨hk, hm⟩
    cases T with
    | ok j => exact ⟨X, hk, hm.1, .inl ⟨j, rfl, rfl, hm.2⟩⟩
    | error q => exact ⟨⟨#[]⟩, hk, hm.1, .inr ⟨q.1, q.2, rfl, hm.2⟩⟩)
  go_enter Tryz.func109, Tryz.ntmps109
  go_wp2_with fail
  go_region
  generalize (w.alloc (.cells #[.int .i64 file, .int .i64 tl, .int .i64 tc] 27)).drew = w3 at *
  clear c0 c1 c2 c3 d0 d1 d2 d3 d4 d5 c0' c1' d3' d4' d5' m0 m1 m2 mf0 mf1 mf2 ml gl cl f1 f2 f3
  go_wp2_with fail
  go_quiet (fail)
  go_wp2_with fail
  go_quiet (fail)
  go_wp2_with fail
  go_quiet (fail)
  go_wp2_with fail
  generalize hw5 : World.drewN (World.drewN w3 _) _ = w5
  have hk5 : Keeps (fun _ => False) w3 w5 := by rw [← hw5]; exact (keeps_draws _ _).trans (keeps_draws _ _) (fun _ _ e => e)
  have H5 := Lib.hid (H3.out.keeps hk5)
  have HM5 := Lib.hid (HM.out.keeps hk5 (fun e => e))
  have HK5 := Lib.hid (HK3.out.trans hk5 (fun _ _ e => e))
  obtain ⟨g', cap', eg, hg', q0, q1, q2, q3, q4, q5⟩ := H5.out.toks.at HNX.out
  cases eg
  obtain ⟨kd, hkd⟩ : ∃ x, x = (tkN L (i + 1)).kind := ⟨_, rfl⟩
  obtain ⟨tx, htx⟩ : ∃ x, x = (tkN L (i + 1)).text := ⟨_, rfl⟩
  rw [← hkd] at q0 HNK
  rw [← htx] at q1
  clear hkd htx
  have ql : g < w5.heap.size := World.block_lt_of_cell? w5 _ q0
  obtain ⟨b0, b1, _, b3, _, _, _, _, _, _, _, _, _, bl⟩ := H5.out.cells
  generalize (tkN L (i + 1)).value = tv at *
  generalize (tkN L (i + 1)).line = tl2 at *
  generalize (tkN L (i + 1)).col = tc2 at *
  have hNT := Holds.new w5 #[.int .i64 0, .string ⟨#[]⟩, .int .i64 0, .int .i64 0, .int .i64 0, .int .i64 0] 65
  have hbt : Below w5.heap.size w5 (w5.alloc (.cells #[.int .i64 0, .string ⟨#[]⟩, .int .i64 0, .int .i64 0, .int .i64 0, .int .i64 0] 65)) := (Below.refl _ _).alloc (Nat.le_refl _) _
  have b0' := (hbt.cell bl).trans b0
  have b1' := (hbt.cell bl).trans b1
  have q0' := (hbt.cell ql).trans q0
  have q1' := (hbt.cell ql).trans q1
  have q2' := (hbt.cell ql).trans q2
  have q3' := (hbt.cell ql).trans q3
  have q4' := (hbt.cell ql).trans q4
  have q5' := (hbt.cell ql).trans q5
  obtain ⟨g0, g1, g2, g3, g4, g5⟩ := six_free hNT
  obtain ⟨o0, o1, o2, o3, o4, o5⟩ := six_cells hNT
  have hlt := hNT.lt
  have hk6 : Keeps (fun _ => False) w5 (w5.alloc (.cells #[.int .i64 kd, .string ⟨tx.toArray⟩, .int .i64 tv, .int .i64 file, .int .i64 tl2, .int .i64 tc2] 65)).drew := ((Keeps.refl _ w5).alloc _).drew
  have hMT := (Holds.new w5 #[.int .i64 kd, .string ⟨tx.toArray⟩, .int .i64 tv, .int .i64 file, .int .i64 tl2, .int .i64 tc2] 65).drew
  obtain ⟨u0, u1, _, _, _, _⟩ := six_cells hMT
  have ul := hMT.lt
  have h6 := H5.out.keeps hk6
  have HM6 := Lib.hid (HM5.out.keeps hk6 (fun e => e))
  have HK6 := Lib.hid ((HK5.out.trans hk6 (fun _ _ e => e)).mono (S := (· = r)) (fun _ _ e => e.elim))
  obtain ⟨s0, s1, _, s3, _, _, _, r1, _, _, _, _, _, sl⟩ := h6.cells
  have H6 := Lib.hid h6
  have HMT := Lib.hid hMT
  have hw1 : IntKind.i64.wrap (((i : Nat) : Int) + 1) = ((i : Nat) : Int) + 1 := IntWalk.i64_in _ (by omega)
  have hw2 : (0 : Int) ≤ ((i : Nat) : Int) + 1 := by omega
  have hw3 : ((i : Nat) : Int) + 1 < (L.length : Int) := by have := HNX.out; omega
  have hw4 : (((i : Nat) : Int) + 1).toNat = i + 1 := by omega
  clear hNT hbt hk6 hMT h6 hk5
  go_region
  generalize (w5.alloc (.cells #[.int .i64 kd, .string ⟨tx.toArray⟩, .int .i64 tv, .int .i64 file, .int .i64 tl2, .int .i64 tc2] 65)).drew = w6 at *
  clear hw1 hw2 hw3 hw4 b0 b1 b3 bl b0' b1' q0 q1 q2 q3 q4 q5 q0' q1' q2' q3' q4' q5' g0 g1 g2 g3 g4 g5 o0 o1 o2 o3 o4 o5 hlt ql
  have hkb : (kd == 4) = false := by rw [beq_eq_false_iff_ne]; exact HNK.out
  go_wp2_with fail
  have hbs := HH.out.size
  go_upto_region 21 with fail
  refine wp_region_any (by kernel_rfl) ?_
  refine wpAny_ops (ops' := pgOps) (by kernel_rfl) ?_
  refine pg_region21 r base w.heap.size file L (.slice (some ⟨g, 0, none⟩) L.length cap) ov i D T X tl tc w w6.drew _ ?_ HH.out (fun j e => by have := HJ2.out j e; omega) hPr (H6.out.keeps ((Keeps.refl _ _).drew)) HM6.out.drew (fun wx hx => HWU.out wx hx) ?_ ?_ HK6.out.drew ?_
  · rfl
  · rfl
  · rfl
  intro c w8 Z Y hsb hk8 c7 hZ8 hZw hZr hT8
  obtain ⟨y136, y137, y138, y139, y7, hc⟩ := hsb.ex [136, 137, 138, 139, 7] (by kernel_rfl)
  subst hc
  simp only [List.setIfInBounds_toArray, List.set_cons_zero, List.set_cons_succ] at c7 ⊢
  have e7 : y7 = .pointer (some ⟨Z, 0, none⟩) := c7
  subst e7
  unfold propC at hZ8
  have HZ8 := Lib.hid hZ8
  have HK8 := Lib.hid hk8
  clear c7 hsb hZ8 hk8
  rcases hT8 with ⟨jw, e1, rfl, hA8⟩ | ⟨k, c, e1, hB8⟩
  · have HJ3 := Lib.hid (HJ2.out jw e1)
    subst e1
    have HA8 := Lib.hid hA8
    have HIS := Lib.hid (r4_is w8 r base file L (.slice (some ⟨g, 0, none⟩) L.length cap) ov jw D hA8 4 [61] (by decide))
    obtain ⟨_, b1, _, b3, _, _, _, f1, _, _, _, _, _, bl⟩ := hA8.cells
    have HTL2 := Lib.hid (hA8.num)
    obtain ⟨n5, n6⟩ := hA8.num
    clear hA8
    cases hq : isK L jw 4 [61] with
    | false =>
      rw [hq] at HIS
      have HPE := Lib.hid (show PR = .ok (jw, []) from by
        rw [HPR.out, ← HJ3.out, show fuelP L = L.length + 1 from rfl, partsR, if_neg (by rw [hq]; exact Bool.false_ne_true)])
      have HJN := Lib.hid (show D.length ≤ 2 * jw from by have := HCD.out; have := HJ3.out; omega)
      clear hq
      go_wp2_with fail
      refine (by exact HIS.out : Calls _ _ _ _ _).mono ?_
      rintro e w9 ⟨rfl, hk9⟩
      have HA9 := Lib.hid (HA8.out.keeps hk9)
      have HZ9 := Lib.hid (HZ8.out.keeps hk9 (fun e => e))
      have HK9 := Lib.hid (HK8.out.trans hk9 (fun _ _ e => e.elim))
      obtain ⟨s0, s1, s2, s3, s4, s5, s6⟩ := seven_cells HZ9.out
      have sl := HZ9.out.lt
      have HAD := Lib.hid (r4_add_at w9 r base file L (.slice (some ⟨g, 0, none⟩) L.length cap) ov jw D ⟨3, ⟨#[]⟩, Y, [], tl, tc⟩ (.slice none 0 0) HA9.out (PartsRow.none _ _) (by have := HJN.out; omega))
      clear hk9
      go_wp2_with fail
      refine (by exact HAD.out : Calls _ _ _ _ _).mono ?_
      rintro e wa ⟨rfl, ova, haa, hba⟩
      have HTK := Lib.hid (r4_take wa r base file L _ ova jw _ haa [59] (by decide))
      have HBA := Lib.hid ((HK9.out.below HH.out.size HLOW.out).trans hba)
      have HSA := Lib.hid haa.size
      clear haa hba
      go_wp2_with fail
      refine (by exact HTK.out : Calls _ _ _ _ _).mono ?_
      rintro e wb ⟨rfl, hkb, t1, t2⟩
      have HTB := Lib.hid (And.intro t1 t2)
      have HBB := Lib.hid (HBA.out.trans (hkb.below HSA.out HLOW.out))
      clear hkb t1 t2
      go_wp2_with fail
      refine bodyPost_ret (results_none rfl _ _ _) rfl ?_
      refine ⟨rfl, HBB.out, ?_⟩
      rw [HPE.out]
      cases hg : isK L jw 4 [59] with
      | true =>
        rw [show endB4 L (seqR (.ok jw) (propR (.ok (jw, [])) Y tl tc)) = _ from endB4_ok hg]
        exact ⟨ova, HTB.out.1 hg, by simp; have := HJN.out; omega⟩
      | false =>
        rw [show endB4 L (seqR (.ok jw) (propR (.ok (jw, [])) Y tl tc)) = _ from endB4_bad hg]
        exact HTB.out.2 hg
    | true =>
      rw [hq] at HIS
      have HNJ := Lib.hid (HA8.out.ok.next HA8.out.lt (by rw [(isK_sign (by decide) hq).1]; decide))
      have HS1 := Lib.hid (show (match partR L (jw + 1) with
        | .ok (k, q) => partsR L L.length [44] k (([] : List PartT) ++ [q])
        | .error e => .error e) = PR from by
        rw [HPR.out, ← HJ3.out, show fuelP L = L.length + 1 from rfl, partsR, if_pos hq]
        cases partR L (jw + 1) <;> rfl)
      clear hq
      go_wp2_with fail
      refine (by exact HIS.out : Calls _ _ _ _ _).mono ?_
      rintro e w9 ⟨rfl, hk9⟩
      have hA9 := HA8.out.keeps hk9
      have HZ9 := Lib.hid (HZ8.out.keeps hk9 (fun e => e))
      have HK9 := Lib.hid (HK8.out.trans hk9 (fun _ _ e => e.elim))
      obtain ⟨_, b1, _, b3, _, _, _, f1, _, _, _, _, _, bl⟩ := hA9.cells
      obtain ⟨hs1, hs2⟩ := hA9.step HNJ.out
      have HA10 := Lib.hid hs1
      have HZ10 := Lib.hid (HZ9.out.keeps hs2 hZr)
      have HK5' := Lib.hid (HK9.out.trans hs2 (fun _ _ e => e))
      clear hk9 hA9 hs1 hs2
      have HPT0 := Lib.hid (PartsAt.none w9 w.heap.size base)
      go_upto_region 24 with fail
      generalize w9.setCell ⟨r, 1, none⟩ (.int .i64 ((jw : Int) + 1)) = w10 at *
      obtain ⟨vs, hvl, hrow, hsub⟩ := PartsAt.none w10 w.heap.size base
      clear b1 b3 f1 bl
      refine wp_region_any (by kernel_rfl) ?_
      refine wpAny_ops (ops' := phOps) (by kernel_rfl) ?_
      refine ph_region r base Z file L (.slice (some ⟨g, 0, none⟩) L.length cap) ov (.slice none 0 0) (.int .i64 3) (.string ⟨#[]⟩) (.string Y) (.int .i64 file) (.int .i64 tl) (.int .i64 tc) D i (jw + 1) [] vs w w10.drew _ ?_ HH.out (by have := HJ3.out; omega) (HA10.out.keeps ((Keeps.refl _ _).drew)) HZ10.out.drew hZr hZw hvl (ownsRow_keeps hrow ((Keeps.refl (fun _ => False) _).drew) (fun _ _ e => e)) (fun k h _ => by simp at h) (by simp) ?_ ?_ HK5'.out.drew ?_
      · rfl
      · rfl
      · rfl
      intro c w11 p1 v8 hsb hk11 hZ11 hP11 hR11
      obtain ⟨y156, y157, y158, y159, y160, y161, y162, hc⟩ := hsb.ex [156, 157, 158, 159, 160, 161, 162] (by kernel_rfl)
      subst hc
      simp only [List.setIfInBounds_toArray, List.set_cons_zero, List.set_cons_succ]
      have HZ11 := Lib.hid hZ11
      have HK11 := Lib.hid hk11
      have HP11 := Lib.hid hP11
      have HST := Lib.hid (show (∃ j, Hid (R4At w11 r base file L (.slice (some ⟨g, 0, none⟩) L.length cap) ov j D) ∧ Hid (partsR L L.length [44] j ([] ++ [p1]) = PR) ∧ Hid (L.length + 1 ≤ j + L.length ∧ ([] ++ [p1]).length ≤ j ∧ i ≤ j)) ∨ (∃ k c, Hid (PR = .error (k, c)) ∧ Hid (R4Bad w11 r file L k c)) from by
        have h9 := HS1.out
        rcases hR11 with ⟨k, e, ha⟩ | ⟨k, c, e, hb⟩
        · have hkk := part_lt e
          rw [e] at h9
          exact .inl ⟨k, Lib.hid ha, Lib.hid h9, Lib.hid ⟨by omega, by simp; omega, by have := HJ3.out; omega⟩⟩
        · rw [e] at h9
          exact .inr ⟨k, c, Lib.hid h9.symm, Lib.hid hb⟩)
      clear hsb hZ11 hk11 hP11 hR11 hrow hsub hvl HA10 HZ10 HK5' HZ9 HK9 HA8 HZ8 HK8 HPT0
      go_wp2_with fail
      go_loopg [] (L.length) (fun f wr => ∃ (acc : List PartT) (cv : Value), Hid (Holds wr Z #[.int .i64 3, .string ⟨#[]⟩, .string Y, cv, .int .i64 file, .int .i64 tl, .int .i64 tc] 34) ∧ Hid (PartsAt wr w.heap.size base cv acc) ∧ Hid (Keeps (· = r) w wr) ∧ ((∃ j, Hid (R4At wr r base file L (.slice (some ⟨g, 0, none⟩) L.length cap) ov j D) ∧ Hid (partsR L f [44] j acc = PR) ∧ Hid (L.length + 1 ≤ j + f ∧ acc.length ≤ j ∧ i ≤ j)) ∨ (∃ k c, Hid (PR = .error (k, c)) ∧ Hid (R4Bad wr r file L k c))))
      case atStart => exact ⟨[] ++ [p1], v8, HZ11, HP11, HK11, HST.out⟩
      case round =>
        obtain ⟨acc, cv, HZ, HP, HK, ⟨j, HA, HS, HN⟩ | ⟨k, c, HE, HB⟩⟩ := hrel
        · obtain ⟨nn, hnn⟩ : ∃ nn, nn + 1 = gk := ⟨gk - 1, by have := HN.out; have := HA.out.lt; omega⟩
          have HNN := Lib.hid hnn
          have hA := HA.out
          have HIS2 := Lib.hid (r4_is wr r base file L (.slice (some ⟨g, 0, none⟩) L.length cap) ov j D hA 4 [44] (by decide))
          obtain ⟨_, b1, _, b3, _, _, _, f1, _, _, _, _, _, bl⟩ := hA.cells
          obtain ⟨n7, n8⟩ := hA.num
          have hS := HS.out
          rw [← hnn, partsR] at hS
          cases hg : isK L j 4 [44] with
          | false =>
            rw [hg] at HIS2
            rw [hg, if_neg Bool.false_ne_true] at hS
            have HPE := Lib.hid hS.symm
            have HJN := Lib.hid (show D.length ≤ 2 * j from by have := HCD.out; have := HN.out; omega)
            clear hS hg hA hnn
            go_wp2_with fail
            refine (by exact HIS2.out : Calls _ _ _ _ _).mono ?_
            rintro e w12 ⟨rfl, hk12⟩
            have HA12 := Lib.hid (HA.out.keeps hk12)
            have HZ12 := Lib.hid (HZ.out.keeps hk12 (fun e => e))
            have HP12 := Lib.hid (HP.out.keeps hk12 (Apart3.nil _))
            have HK12 := Lib.hid (HK.out.trans hk12 (fun _ _ e => e.elim))
            clear hk12
            obtain ⟨va, vc, rfl⟩ := HP12.out.slice
            obtain ⟨s0, s1, s2, s3, s4, s5, s6⟩ := seven_cells HZ12.out
            have sl := HZ12.out.lt
            have HAD := Lib.hid (r4_add_at w12 r base file L (.slice (some ⟨g, 0, none⟩) L.length cap) ov j D ⟨3, ⟨#[]⟩, Y, acc, tl, tc⟩ (.slice va (List.length (acc)) vc) HA12.out (HP12.out.row hbs) (by have := HJN.out; omega))
            go_wp2_with fail
            refine (by exact HAD.out : Calls _ _ _ _ _).mono ?_
            rintro e wa ⟨rfl, ova, haa, hba⟩
            have HTK := Lib.hid (r4_take wa r base file L _ ova j _ haa [59] (by decide))
            have HBA := Lib.hid ((HK12.out.below HH.out.size HLOW.out).trans hba)
            have HSA := Lib.hid haa.size
            clear haa hba
            go_wp2_with fail
            refine (by exact HTK.out : Calls _ _ _ _ _).mono ?_
            rintro e wb ⟨rfl, hkb, t1, t2⟩
            have HTB := Lib.hid (And.intro t1 t2)
            have HBB := Lib.hid (HBA.out.trans (hkb.below HSA.out HLOW.out))
            clear hkb t1 t2
            go_wp2_with fail
            refine bodyPost_ret (results_none rfl _ _ _) rfl ?_
            refine ⟨rfl, HBB.out, ?_⟩
            rw [HPE.out]
            cases hg : isK L j 4 [59] with
            | true =>
              rw [show endB4 L (seqR (.ok jw) (propR (.ok (j, acc)) Y tl tc)) = _ from endB4_ok hg]
              exact ⟨ova, HTB.out.1 hg, by simp; have := HJN.out; omega⟩
            | false =>
              rw [show endB4 L (seqR (.ok jw) (propR (.ok (j, acc)) Y tl tc)) = _ from endB4_bad hg]
              exact HTB.out.2 hg
          | true =>
            rw [hg] at HIS2
            rw [hg, if_pos rfl] at hS
            have HNJ2 := Lib.hid (HA.out.ok.next HA.out.lt (by rw [(isK_sign (by decide) hg).1]; decide))
            have HS2 := Lib.hid hS
            clear hS hg hA hnn
            go_wp2_with fail
            refine (by exact HIS2.out : Calls _ _ _ _ _).mono ?_
            rintro e w12 ⟨rfl, hk12⟩
            have hA12 := HA.out.keeps hk12
            obtain ⟨_, b1, _, b3, _, _, _, f1, _, _, _, _, _, bl⟩ := hA12.cells
            obtain ⟨hs1, hs2⟩ := hA12.step HNJ2.out
            have HA13 := Lib.hid hs1
            have HZ13 := Lib.hid ((HZ.out.keeps hk12 (fun e => e)).keeps hs2 hZr)
            have HP13 := Lib.hid ((HP.out.keeps hk12 (Apart3.nil _)).keeps hs2 (Apart3.one hA12.holds (by decide) (by decide) (by decide)))
            have HK13 := Lib.hid ((HK.out.trans hk12 (fun _ _ e => e.elim)).trans hs2 (fun _ _ e => e))
            clear hk12 hA12 hs1 hs2
            go_upto_region 27 with fail
            generalize w12.setCell ⟨r, 1, none⟩ (.int .i64 ((j : Int) + 1)) = w13 at *
            obtain ⟨vs, hvl, hrow, hsub⟩ := HP13.out
            clear b1 b3 f1 bl
            refine wp_region_any (by kernel_rfl) ?_
            refine wpAny_ops (ops' := pi4Ops) (by kernel_rfl) ?_
            refine pi4_region r base Z file L (.slice (some ⟨g, 0, none⟩) L.length cap) ov cv (.int .i64 3) (.string ⟨#[]⟩) (.string Y) (.int .i64 file) (.int .i64 tl) (.int .i64 tc) D i (j + 1) acc vs w w13.drew _ ?_ HH.out (by have := HN.out; omega) (HA13.out.keeps ((Keeps.refl _ _).drew)) HZ13.out.drew hZr hZw hvl (ownsRow_keeps hrow ((Keeps.refl (fun _ => False) _).drew) (fun _ _ e => e)) (fun k h h2 => (hsub k h h2).keeps ((Keeps.refl (fun _ => False) _).drew) (Apart3.nil _)) (by have := HN.out; omega) ?_ ?_ HK13.out.drew ?_
            · rfl
            · rfl
            · rfl
            intro c w14 p2 v9 hsb hk14 hZ14 hP14 hR14
            obtain ⟨y179, y180, y181, y182, y183, y184, y185, hc⟩ := hsb.ex [179, 180, 181, 182, 183, 184, 185] (by kernel_rfl)
            subst hc
            simp only [List.setIfInBounds_toArray, List.set_cons_zero, List.set_cons_succ]
            have HST2 := Lib.hid (show (∃ j, Hid (R4At w14 r base file L (.slice (some ⟨g, 0, none⟩) L.length cap) ov j D) ∧ Hid (partsR L nn [44] j (acc ++ [p2]) = PR) ∧ Hid (L.length + 1 ≤ j + nn ∧ (acc ++ [p2]).length ≤ j ∧ i ≤ j)) ∨ (∃ k c, Hid (PR = .error (k, c)) ∧ Hid (R4Bad w14 r file L k c)) from by
              have h9 := HS2.out
              have hN := HN.out
              have hNN := HNN.out
              rcases hR14 with ⟨k, e, ha⟩ | ⟨k, c, e, hb⟩
              · have hkk := part_lt e
                rw [e] at h9
                exact .inl ⟨k, Lib.hid ha, Lib.hid h9, Lib.hid ⟨by omega, by simp; omega, by omega⟩⟩
              · rw [e] at h9
                exact .inr ⟨k, c, Lib.hid h9.symm, Lib.hid hb⟩)
            have HZ14 := Lib.hid hZ14
            have HK14 := Lib.hid hk14
            have HP14 := Lib.hid hP14
            clear hsb hZ14 hk14 hP14 hR14 hrow hsub hvl
            go_wp2_with fail
            go_roundg nn
            case measure => have := HNN.out; omega
            case rel => exact ⟨acc ++ [p2], v9, HZ14, HP14, HK14, HST2.out⟩
        · have HPE := HE.out
          obtain ⟨hc0, lv', x', ov', hH⟩ := id HB.out
          have b3 := hH.cell 3
          have bl := hH.lt
          have hcb : (c == 0) = false := by rw [beq_eq_false_iff_ne]; exact hc0
          have HPE := Lib.hid HE.out
          clear hH hc0
          obtain ⟨va, vc, rfl⟩ := HP.out.slice
          obtain ⟨s0, s1, s2, s3, s4, s5, s6⟩ := seven_cells HZ.out
          have sl := HZ.out.lt
          go_wp2_with fail
          refine (by exact r4_add_bad wr r file L k c HB.out _ _ _ _ _ _ _ _ _ : Calls _ _ _ _ _).mono ?_
          rintro e wa ⟨rfl, haa, hka⟩
          have HBA := Lib.hid ((HK.out.trans (hka.mono (S := (· = r)) (fun _ _ e => e.elim)) (fun _ _ e => e)).below HH.out.size HLOW.out)
          have HAA := Lib.hid haa
          have HTB := Lib.hid (r4_take_bad wa r file L k c haa ⟨#[59]⟩)
          clear haa hka
          go_wp2_with fail
          refine (by exact HTB.out : Calls _ _ _ _ _).mono ?_
          rintro e wb ⟨rfl, rfl⟩
          go_wp2_with fail
          refine bodyPost_ret (results_none rfl _ _ _) rfl ?_
          rw [HPE.out]
          exact ⟨rfl, HBA.out, HAA.out⟩
  · subst e1
    have HB8 := Lib.hid hB8
    obtain ⟨hc0, lv', x', ov', hH⟩ := id hB8
    have b3 := hH.cell 3
    have bl := hH.lt
    have hcb : (c == 0) = false := by rw [beq_eq_false_iff_ne]; exact hc0
    clear hB8 hH hc0
    obtain ⟨s0, s1, s2, s3, s4, s5, s6⟩ := seven_cells HZ8.out
    have sl := HZ8.out.lt
    go_wp2_with fail
    refine (by exact r4_add_bad w8 r file L k c HB8.out _ _ _ _ _ _ _ _ _ : Calls _ _ _ _ _).mono ?_
    rintro e wa ⟨rfl, haa, hka⟩
    have HBA := Lib.hid ((HK8.out.trans (hka.mono (S := (· = r)) (fun _ _ e => e.elim)) (fun _ _ e => e)).below HH.out.size HLOW.out)
    have HAA := Lib.hid haa
    have HTB := Lib.hid (r4_take_bad wa r file L k c haa ⟨#[59]⟩)
    clear haa hka
    go_wp2_with fail
    refine (by exact HTB.out : Calls _ _ _ _ _).mono ?_
    rintro e wb ⟨rfl, rfl⟩
    go_wp2_with fail
    refine bodyPost_ret (results_none rfl _ _ _) rfl ?_
    exact ⟨rfl, HBA.out, HAA.out⟩
end Go.Proofs.YtofhcgbihonckaaGreat
namespace Go.Proofs.YtofhcgbihonckaaGreat
open Go.RowKit
set_option maxRecDepth 100000 in
set_option maxHeartbeats 4000000 in
theorem r4_member_propB (r base : Nat) (file : Int) (L : List Tok) (lv : Value) (n : Nat) (w : World) (ov : Value) (i : Nat) (D : List DefT) (h : R4At w r base file L lv ov i D) (dp : Nat) (hdp : dp ≤ 50) (hk : (tkN L i).kind = 1) (hb : isK L (i + 1) 4 [123] = false) (hcD : D.length ≤ 2 * i) (h4 : (tkN L (i + 1)).kind = 4) (hc : (tkN L (i + 1)).text ≠ [123]) :
    Calls Tryz.prog 109 #[.pointer (some ⟨r, 0, none⟩), .int .i64 (dp : Int)] w (R4Out r base file L lv D (srcE L (n + 2) (.member dp) i) w) := by
  rw [member_name hk, named_prop hb]
  obtain ⟨c0, c1, c2, c3, _, _, _, f1, f2, f3, _, _, _, cl⟩ := h.cells
  obtain ⟨n1, n2⟩ := h.num
  have HH := Lib.hid h
  have HNX := Lib.hid (h.ok.next h.lt (by rw [hk]; decide))
  obtain ⟨g, cap, rfl, hg, d0, d1, d2, d3, d4, d5⟩ := h.toks.at h.lt
  have gl : g < w.heap.size := World.block_lt_of_cell? w _ d0
  rw [hk] at d0
  obtain ⟨tl, htl⟩ : ∃ t, t = (tkN L i).line := ⟨_, rfl⟩
  obtain ⟨tc, htc⟩ : ∃ t, t = (tkN L i).col := ⟨_, rfl⟩
  rw [← htl] at d4
  rw [← htc] at d5
  have HTL := Lib.hid htl
  have HTC := Lib.hid htc
  clear htl htc
  have hN := Holds.new w #[.int .i64 0, .int .i64 0, .int .i64 0] 27
  have hbl : Below w.heap.size w (w.alloc (.cells #[.int .i64 0, .int .i64 0, .int .i64 0] 27)) := (Below.refl _ _).alloc (Nat.le_refl _) _
  have c0' := (hbl.cell cl).trans c0
  have c1' := (hbl.cell cl).trans c1
  have d3' := (hbl.cell gl).trans d3
  have d4' := (hbl.cell gl).trans d4
  have d5' := (hbl.cell gl).trans d5
  obtain ⟨m0, m1, m2, mf0, mf1, mf2, ml⟩ := three hN
  have hM := (Holds.new w #[.int .i64 file, .int .i64 tl, .int .i64 tc] 27).drew
  have hk3 : Keeps (fun _ => False) w (w.alloc (.cells #[.int .i64 file, .int .i64 tl, .int .i64 tc] 27)).drew := ((Keeps.refl _ w).alloc _).drew
  have h3 := h.keeps hk3
  obtain ⟨x0, x1, x2, _, _, _, xl⟩ := three hM
  obtain ⟨y0, y1, _, y3, _, _, _, z1, _, z3, _, _, _, yl⟩ := h3.cells
  have e0 := (hk3.cell (p := ⟨g, i * 6, none⟩) gl (fun e => e)).trans d0
  have gl3 := Nat.lt_of_lt_of_le gl hk3.size
  have H3 := Lib.hid h3
  have HK3 := Lib.hid hk3
  have HM := Lib.hid hM
  have HWD := Lib.hid (fun wx hx => r4_word2 wx r base file L (.slice (some ⟨g, 0, none⟩) L.length cap) ov i D hx 1 (by decide))
  have HNK := Lib.hid hc
  have HT := Lib.hid (show takenR L 1 (rightH 2) i = if propT (tkN L i).text = true then .ok (i + 1) else .error (i, 1) from by unfold takenR; rw [if_pos hk]; rfl)
  obtain ⟨T, hT⟩ : ∃ T, T = takenR L 1 (rightH 2) i := ⟨_, rfl⟩
  rw [← hT] at HWD HT
  obtain ⟨PR, hPR⟩ : ∃ R, R = partsR L (fuelP L) [61] (i + 1) [] := ⟨_, rfl⟩
  rw [← hPR]
  obtain ⟨X, hX⟩ : ∃ X, X = txN L i := ⟨_, rfl⟩
  rw [← hX]
  unfold R4WordOut at HWD
  rw [← hX] at HWD
  have hdp1 : (dp : Int) ≤ 50 := by omega
  have hRR : (if propT (tkN L i).text = true then propR PR X (tkN L i).line (tkN L i).col else .error (i, 1)) = seqR T (propR PR X (tkN L i).line (tkN L i).col) := by
    rw [HT.out]
    split <;> rfl
  rw [hRR, ← HTL.out, ← HTC.out]
  have hj2 : ∀ j, T = .ok j → j = i + 1 := fun j e => by
    have h9 := HT.out
    rw [e] at h9
    split at h9
    · injection h9
    · cases h9
  have HJ2 := Lib.hid hj2
  have HCD := Lib.hid hcD
  have HPR := Lib.hid hPR
  have hPr : w.heap.size ≠ r := by omega
  have HLOW := Lib.hid (show ∀ b, b < base → ¬ b = r from fun b hb e => by have := h.low; omega)
  clear h hk hb hc hN hbl hM hk3 h3 hT HT hRR hPR hX hj2 hcD
  have HWU : Hid (∀ wx, R4At wx r base file L (.slice (some ⟨g, 0, none⟩) L.length cap) ov i D → Calls Tryz.prog 65 #[.pointer (some ⟨r, 0, none⟩), .int .i64 1, .int .i64 2] wx fun e w' => ∃ Y : ByteArray, Keeps (· = r) wx w' ∧ e = .returned (.string Y) ∧ RT r base file L (.slice (some ⟨g, 0, none⟩) L.length cap) ov D T X Y w') := Lib.hid (fun wx hx => by
    refine (HWD.out wx hx).mono ?_
    rintro e w' ⟨hk, hm⟩
    cases T with
    | ok j => exact ⟨X, hk, hm.1, .inl ⟨j, rfl, rfl, hm.2⟩⟩
    | error q => exact ⟨⟨#[]⟩, hk, hm.1, .inr ⟨q.1, q.2, rfl, hm.2⟩⟩)
  go_enter Tryz.func109, Tryz.ntmps109
  go_wp2_with fail
  go_region
  generalize (w.alloc (.cells #[.int .i64 file, .int .i64 tl, .int .i64 tc] 27)).drew = w3 at *
  clear c0 c1 c2 c3 d0 d1 d2 d3 d4 d5 c0' c1' d3' d4' d5' m0 m1 m2 mf0 mf1 mf2 ml gl cl f1 f2 f3
  go_wp2_with fail
  go_quiet (fail)
  go_wp2_with fail
  go_quiet (fail)
  go_wp2_with fail
  go_quiet (fail)
  go_wp2_with fail
  generalize hw5 : World.drewN (World.drewN w3 _) _ = w5
  have hk5 : Keeps (fun _ => False) w3 w5 := by rw [← hw5]; exact (keeps_draws _ _).trans (keeps_draws _ _) (fun _ _ e => e)
  have H5 := Lib.hid (H3.out.keeps hk5)
  have HM5 := Lib.hid (HM.out.keeps hk5 (fun e => e))
  have HK5 := Lib.hid (HK3.out.trans hk5 (fun _ _ e => e))
  obtain ⟨g', cap', eg, hg', q0, q1, q2, q3, q4, q5⟩ := H5.out.toks.at HNX.out
  cases eg
  obtain ⟨kd, hkd⟩ : ∃ x, x = (tkN L (i + 1)).kind := ⟨_, rfl⟩
  obtain ⟨tx, htx⟩ : ∃ x, x = (tkN L (i + 1)).text := ⟨_, rfl⟩
  rw [h4] at hkd
  rw [h4] at q0
  rw [← htx] at q1 HNK
  clear h4 hkd htx
  have ql : g < w5.heap.size := World.block_lt_of_cell? w5 _ q0
  obtain ⟨b0, b1, _, b3, _, _, _, _, _, _, _, _, _, bl⟩ := H5.out.cells
  generalize (tkN L (i + 1)).value = tv at *
  generalize (tkN L (i + 1)).line = tl2 at *
  generalize (tkN L (i + 1)).col = tc2 at *
  have hNT := Holds.new w5 #[.int .i64 0, .string ⟨#[]⟩, .int .i64 0, .int .i64 0, .int .i64 0, .int .i64 0] 65
  have hbt : Below w5.heap.size w5 (w5.alloc (.cells #[.int .i64 0, .string ⟨#[]⟩, .int .i64 0, .int .i64 0, .int .i64 0, .int .i64 0] 65)) := (Below.refl _ _).alloc (Nat.le_refl _) _
  have b0' := (hbt.cell bl).trans b0
  have b1' := (hbt.cell bl).trans b1
  have q0' := (hbt.cell ql).trans q0
  have q1' := (hbt.cell ql).trans q1
  have q2' := (hbt.cell ql).trans q2
  have q3' := (hbt.cell ql).trans q3
  have q4' := (hbt.cell ql).trans q4
  have q5' := (hbt.cell ql).trans q5
  obtain ⟨g0, g1, g2, g3, g4, g5⟩ := six_free hNT
  obtain ⟨o0, o1, o2, o3, o4, o5⟩ := six_cells hNT
  have hlt := hNT.lt
  have hk6 : Keeps (fun _ => False) w5 (w5.alloc (.cells #[.int .i64 4, .string ⟨tx.toArray⟩, .int .i64 tv, .int .i64 file, .int .i64 tl2, .int .i64 tc2] 65)).drew := ((Keeps.refl _ w5).alloc _).drew
  have hMT := (Holds.new w5 #[.int .i64 4, .string ⟨tx.toArray⟩, .int .i64 tv, .int .i64 file, .int .i64 tl2, .int .i64 tc2] 65).drew
  obtain ⟨u0, u1, _, _, _, _⟩ := six_cells hMT
  have ul := hMT.lt
  have h6 := H5.out.keeps hk6
  have HM6 := Lib.hid (HM5.out.keeps hk6 (fun e => e))
  have HK6 := Lib.hid ((HK5.out.trans hk6 (fun _ _ e => e)).mono (S := (· = r)) (fun _ _ e => e.elim))
  obtain ⟨s0, s1, _, s3, _, _, _, r1, _, _, _, _, _, sl⟩ := h6.cells
  have H6 := Lib.hid h6
  have HMT := Lib.hid hMT
  have hw1 : IntKind.i64.wrap (((i : Nat) : Int) + 1) = ((i : Nat) : Int) + 1 := IntWalk.i64_in _ (by omega)
  have hw2 : (0 : Int) ≤ ((i : Nat) : Int) + 1 := by omega
  have hw3 : ((i : Nat) : Int) + 1 < (L.length : Int) := by have := HNX.out; omega
  have hw4 : (((i : Nat) : Int) + 1).toNat = i + 1 := by omega
  clear hNT hbt hk6 hMT h6 hk5
  go_region
  generalize (w5.alloc (.cells #[.int .i64 4, .string ⟨tx.toArray⟩, .int .i64 tv, .int .i64 file, .int .i64 tl2, .int .i64 tc2] 65)).drew = w6 at *
  clear hw1 hw2 hw3 hw4 b0 b1 b3 bl b0' b1' q0 q1 q2 q3 q4 q5 q0' q1' q2' q3' q4' q5' g0 g1 g2 g3 g4 g5 o0 o1 o2 o3 o4 o5 hlt ql
  have htb : (tx == [123]) = false := by rw [beq_eq_false_iff_ne]; exact HNK.out
  have htb2 : ((⟨tx.toArray⟩ : ByteArray).toList == [123]) = false := by rw [beq_eq_false_iff_ne, ByteArray.toList_eq]; simpa using HNK.out
  go_wp2_with fail
  have hbs := HH.out.size
  go_upto_region 21 with fail
  refine wp_region_any (by kernel_rfl) ?_
  refine wpAny_ops (ops' := pgOps) (by kernel_rfl) ?_
  refine pg_region21 r base w.heap.size file L (.slice (some ⟨g, 0, none⟩) L.length cap) ov i D T X tl tc w w6.drew _ ?_ HH.out (fun j e => by have := HJ2.out j e; omega) hPr (H6.out.keeps ((Keeps.refl _ _).drew)) HM6.out.drew (fun wx hx => HWU.out wx hx) ?_ ?_ HK6.out.drew ?_
  · rfl
  · rfl
  · rfl
  intro c w8 Z Y hsb hk8 c7 hZ8 hZw hZr hT8
  obtain ⟨y136, y137, y138, y139, y7, hc⟩ := hsb.ex [136, 137, 138, 139, 7] (by kernel_rfl)
  subst hc
  simp only [List.setIfInBounds_toArray, List.set_cons_zero, List.set_cons_succ] at c7 ⊢
  have e7 : y7 = .pointer (some ⟨Z, 0, none⟩) := c7
  subst e7
  unfold propC at hZ8
  have HZ8 := Lib.hid hZ8
  have HK8 := Lib.hid hk8
  clear c7 hsb hZ8 hk8
  rcases hT8 with ⟨jw, e1, rfl, hA8⟩ | ⟨k, c, e1, hB8⟩
  · have HJ3 := Lib.hid (HJ2.out jw e1)
    subst e1
    have HA8 := Lib.hid hA8
    have HIS := Lib.hid (r4_is w8 r base file L (.slice (some ⟨g, 0, none⟩) L.length cap) ov jw D hA8 4 [61] (by decide))
    obtain ⟨_, b1, _, b3, _, _, _, f1, _, _, _, _, _, bl⟩ := hA8.cells
    have HTL2 := Lib.hid (hA8.num)
    obtain ⟨n5, n6⟩ := hA8.num
    clear hA8
    cases hq : isK L jw 4 [61] with
    | false =>
      rw [hq] at HIS
      have HPE := Lib.hid (show PR = .ok (jw, []) from by
        rw [HPR.out, ← HJ3.out, show fuelP L = L.length + 1 from rfl, partsR, if_neg (by rw [hq]; exact Bool.false_ne_true)])
      have HJN := Lib.hid (show D.length ≤ 2 * jw from by have := HCD.out; have := HJ3.out; omega)
      clear hq
      go_wp2_with fail
      refine (by exact HIS.out : Calls _ _ _ _ _).mono ?_
      rintro e w9 ⟨rfl, hk9⟩
      have HA9 := Lib.hid (HA8.out.keeps hk9)
      have HZ9 := Lib.hid (HZ8.out.keeps hk9 (fun e => e))
      have HK9 := Lib.hid (HK8.out.trans hk9 (fun _ _ e => e.elim))
      obtain ⟨s0, s1, s2, s3, s4, s5, s6⟩ := seven_cells HZ9.out
      have sl := HZ9.out.lt
      have HAD := Lib.hid (r4_add_at w9 r base file L (.slice (some ⟨g, 0, none⟩) L.length cap) ov jw D ⟨3, ⟨#[]⟩, Y, [], tl, tc⟩ (.slice none 0 0) HA9.out (PartsRow.none _ _) (by have := HJN.out; omega))
      clear hk9
      go_wp2_with fail
      refine (by exact HAD.out : Calls _ _ _ _ _).mono ?_
      rintro e wa ⟨rfl, ova, haa, hba⟩
      have HTK := Lib.hid (r4_take wa r base file L _ ova jw _ haa [59] (by decide))
      have HBA := Lib.hid ((HK9.out.below HH.out.size HLOW.out).trans hba)
      have HSA := Lib.hid haa.size
      clear haa hba
      go_wp2_with fail
      refine (by exact HTK.out : Calls _ _ _ _ _).mono ?_
      rintro e wb ⟨rfl, hkb, t1, t2⟩
      have HTB := Lib.hid (And.intro t1 t2)
      have HBB := Lib.hid (HBA.out.trans (hkb.below HSA.out HLOW.out))
      clear hkb t1 t2
      go_wp2_with fail
      refine bodyPost_ret (results_none rfl _ _ _) rfl ?_
      refine ⟨rfl, HBB.out, ?_⟩
      rw [HPE.out]
      cases hg : isK L jw 4 [59] with
      | true =>
        rw [show endB4 L (seqR (.ok jw) (propR (.ok (jw, [])) Y tl tc)) = _ from endB4_ok hg]
        exact ⟨ova, HTB.out.1 hg, by simp; have := HJN.out; omega⟩
      | false =>
        rw [show endB4 L (seqR (.ok jw) (propR (.ok (jw, [])) Y tl tc)) = _ from endB4_bad hg]
        exact HTB.out.2 hg
    | true =>
      rw [hq] at HIS
      have HNJ := Lib.hid (HA8.out.ok.next HA8.out.lt (by rw [(isK_sign (by decide) hq).1]; decide))
      have HS1 := Lib.hid (show (match partR L (jw + 1) with
        | .ok (k, q) => partsR L L.length [44] k (([] : List PartT) ++ [q])
        | .error e => .error e) = PR from by
        rw [HPR.out, ← HJ3.out, show fuelP L = L.length + 1 from rfl, partsR, if_pos hq]
        cases partR L (jw + 1) <;> rfl)
      clear hq
      go_wp2_with fail
      refine (by exact HIS.out : Calls _ _ _ _ _).mono ?_
      rintro e w9 ⟨rfl, hk9⟩
      have hA9 := HA8.out.keeps hk9
      have HZ9 := Lib.hid (HZ8.out.keeps hk9 (fun e => e))
      have HK9 := Lib.hid (HK8.out.trans hk9 (fun _ _ e => e.elim))
      obtain ⟨_, b1, _, b3, _, _, _, f1, _, _, _, _, _, bl⟩ := hA9.cells
      obtain ⟨hs1, hs2⟩ := hA9.step HNJ.out
      have HA10 := Lib.hid hs1
      have HZ10 := Lib.hid (HZ9.out.keeps hs2 hZr)
      have HK5' := Lib.hid (HK9.out.trans hs2 (fun _ _ e => e))
      clear hk9 hA9 hs1 hs2
      have HPT0 := Lib.hid (PartsAt.none w9 w.heap.size base)
      go_upto_region 24 with fail
      generalize w9.setCell ⟨r, 1, none⟩ (.int .i64 ((jw : Int) + 1)) = w10 at *
      obtain ⟨vs, hvl, hrow, hsub⟩ := PartsAt.none w10 w.heap.size base
      clear b1 b3 f1 bl
      refine wp_region_any (by kernel_rfl) ?_
      refine wpAny_ops (ops' := phOps) (by kernel_rfl) ?_
      refine ph_region r base Z file L (.slice (some ⟨g, 0, none⟩) L.length cap) ov (.slice none 0 0) (.int .i64 3) (.string ⟨#[]⟩) (.string Y) (.int .i64 file) (.int .i64 tl) (.int .i64 tc) D i (jw + 1) [] vs w w10.drew _ ?_ HH.out (by have := HJ3.out; omega) (HA10.out.keeps ((Keeps.refl _ _).drew)) HZ10.out.drew hZr hZw hvl (ownsRow_keeps hrow ((Keeps.refl (fun _ => False) _).drew) (fun _ _ e => e)) (fun k h _ => by simp at h) (by simp) ?_ ?_ HK5'.out.drew ?_
      · rfl
      · rfl
      · rfl
      intro c w11 p1 v8 hsb hk11 hZ11 hP11 hR11
      obtain ⟨y156, y157, y158, y159, y160, y161, y162, hc⟩ := hsb.ex [156, 157, 158, 159, 160, 161, 162] (by kernel_rfl)
      subst hc
      simp only [List.setIfInBounds_toArray, List.set_cons_zero, List.set_cons_succ]
      have HZ11 := Lib.hid hZ11
      have HK11 := Lib.hid hk11
      have HP11 := Lib.hid hP11
      have HST := Lib.hid (show (∃ j, Hid (R4At w11 r base file L (.slice (some ⟨g, 0, none⟩) L.length cap) ov j D) ∧ Hid (partsR L L.length [44] j ([] ++ [p1]) = PR) ∧ Hid (L.length + 1 ≤ j + L.length ∧ ([] ++ [p1]).length ≤ j ∧ i ≤ j)) ∨ (∃ k c, Hid (PR = .error (k, c)) ∧ Hid (R4Bad w11 r file L k c)) from by
        have h9 := HS1.out
        rcases hR11 with ⟨k, e, ha⟩ | ⟨k, c, e, hb⟩
        · have hkk := part_lt e
          rw [e] at h9
          exact .inl ⟨k, Lib.hid ha, Lib.hid h9, Lib.hid ⟨by omega, by simp; omega, by have := HJ3.out; omega⟩⟩
        · rw [e] at h9
          exact .inr ⟨k, c, Lib.hid h9.symm, Lib.hid hb⟩)
      clear hsb hZ11 hk11 hP11 hR11 hrow hsub hvl HA10 HZ10 HK5' HZ9 HK9 HA8 HZ8 HK8 HPT0
      go_wp2_with fail
      go_loopg [] (L.length) (fun f wr => ∃ (acc : List PartT) (cv : Value), Hid (Holds wr Z #[.int .i64 3, .string ⟨#[]⟩, .string Y, cv, .int .i64 file, .int .i64 tl, .int .i64 tc] 34) ∧ Hid (PartsAt wr w.heap.size base cv acc) ∧ Hid (Keeps (· = r) w wr) ∧ ((∃ j, Hid (R4At wr r base file L (.slice (some ⟨g, 0, none⟩) L.length cap) ov j D) ∧ Hid (partsR L f [44] j acc = PR) ∧ Hid (L.length + 1 ≤ j + f ∧ acc.length ≤ j ∧ i ≤ j)) ∨ (∃ k c, Hid (PR = .error (k, c)) ∧ Hid (R4Bad wr r file L k c))))
      case atStart => exact ⟨[] ++ [p1], v8, HZ11, HP11, HK11, HST.out⟩
      case round =>
        obtain ⟨acc, cv, HZ, HP, HK, ⟨j, HA, HS, HN⟩ | ⟨k, c, HE, HB⟩⟩ := hrel
        · obtain ⟨nn, hnn⟩ : ∃ nn, nn + 1 = gk := ⟨gk - 1, by have := HN.out; have := HA.out.lt; omega⟩
          have HNN := Lib.hid hnn
          have hA := HA.out
          have HIS2 := Lib.hid (r4_is wr r base file L (.slice (some ⟨g, 0, none⟩) L.length cap) ov j D hA 4 [44] (by decide))
          obtain ⟨_, b1, _, b3, _, _, _, f1, _, _, _, _, _, bl⟩ := hA.cells
          obtain ⟨n7, n8⟩ := hA.num
          have hS := HS.out
          rw [← hnn, partsR] at hS
          cases hg : isK L j 4 [44] with
          | false =>
            rw [hg] at HIS2
            rw [hg, if_neg Bool.false_ne_true] at hS
            have HPE := Lib.hid hS.symm
            have HJN := Lib.hid (show D.length ≤ 2 * j from by have := HCD.out; have := HN.out; omega)
            clear hS hg hA hnn
            go_wp2_with fail
            refine (by exact HIS2.out : Calls _ _ _ _ _).mono ?_
            rintro e w12 ⟨rfl, hk12⟩
            have HA12 := Lib.hid (HA.out.keeps hk12)
            have HZ12 := Lib.hid (HZ.out.keeps hk12 (fun e => e))
            have HP12 := Lib.hid (HP.out.keeps hk12 (Apart3.nil _))
            have HK12 := Lib.hid (HK.out.trans hk12 (fun _ _ e => e.elim))
            clear hk12
            obtain ⟨va, vc, rfl⟩ := HP12.out.slice
            obtain ⟨s0, s1, s2, s3, s4, s5, s6⟩ := seven_cells HZ12.out
            have sl := HZ12.out.lt
            have HAD := Lib.hid (r4_add_at w12 r base file L (.slice (some ⟨g, 0, none⟩) L.length cap) ov j D ⟨3, ⟨#[]⟩, Y, acc, tl, tc⟩ (.slice va (List.length (acc)) vc) HA12.out (HP12.out.row hbs) (by have := HJN.out; omega))
            go_wp2_with fail
            refine (by exact HAD.out : Calls _ _ _ _ _).mono ?_
            rintro e wa ⟨rfl, ova, haa, hba⟩
            have HTK := Lib.hid (r4_take wa r base file L _ ova j _ haa [59] (by decide))
            have HBA := Lib.hid ((HK12.out.below HH.out.size HLOW.out).trans hba)
            have HSA := Lib.hid haa.size
            clear haa hba
            go_wp2_with fail
            refine (by exact HTK.out : Calls _ _ _ _ _).mono ?_
            rintro e wb ⟨rfl, hkb, t1, t2⟩
            have HTB := Lib.hid (And.intro t1 t2)
            have HBB := Lib.hid (HBA.out.trans (hkb.below HSA.out HLOW.out))
            clear hkb t1 t2
            go_wp2_with fail
            refine bodyPost_ret (results_none rfl _ _ _) rfl ?_
            refine ⟨rfl, HBB.out, ?_⟩
            rw [HPE.out]
            cases hg : isK L j 4 [59] with
            | true =>
              rw [show endB4 L (seqR (.ok jw) (propR (.ok (j, acc)) Y tl tc)) = _ from endB4_ok hg]
              exact ⟨ova, HTB.out.1 hg, by simp; have := HJN.out; omega⟩
            | false =>
              rw [show endB4 L (seqR (.ok jw) (propR (.ok (j, acc)) Y tl tc)) = _ from endB4_bad hg]
              exact HTB.out.2 hg
          | true =>
            rw [hg] at HIS2
            rw [hg, if_pos rfl] at hS
            have HNJ2 := Lib.hid (HA.out.ok.next HA.out.lt (by rw [(isK_sign (by decide) hg).1]; decide))
            have HS2 := Lib.hid hS
            clear hS hg hA hnn
            go_wp2_with fail
            refine (by exact HIS2.out : Calls _ _ _ _ _).mono ?_
            rintro e w12 ⟨rfl, hk12⟩
            have hA12 := HA.out.keeps hk12
            obtain ⟨_, b1, _, b3, _, _, _, f1, _, _, _, _, _, bl⟩ := hA12.cells
            obtain ⟨hs1, hs2⟩ := hA12.step HNJ2.out
            have HA13 := Lib.hid hs1
            have HZ13 := Lib.hid ((HZ.out.keeps hk12 (fun e => e)).keeps hs2 hZr)
            have HP13 := Lib.hid ((HP.out.keeps hk12 (Apart3.nil _)).keeps hs2 (Apart3.one hA12.holds (by decide) (by decide) (by decide)))
            have HK13 := Lib.hid ((HK.out.trans hk12 (fun _ _ e => e.elim)).trans hs2 (fun _ _ e => e))
            clear hk12 hA12 hs1 hs2
            go_upto_region 27 with fail
            generalize w12.setCell ⟨r, 1, none⟩ (.int .i64 ((j : Int) + 1)) = w13 at *
            obtain ⟨vs, hvl, hrow, hsub⟩ := HP13.out
            clear b1 b3 f1 bl
            refine wp_region_any (by kernel_rfl) ?_
            refine wpAny_ops (ops' := pi4Ops) (by kernel_rfl) ?_
            refine pi4_region r base Z file L (.slice (some ⟨g, 0, none⟩) L.length cap) ov cv (.int .i64 3) (.string ⟨#[]⟩) (.string Y) (.int .i64 file) (.int .i64 tl) (.int .i64 tc) D i (j + 1) acc vs w w13.drew _ ?_ HH.out (by have := HN.out; omega) (HA13.out.keeps ((Keeps.refl _ _).drew)) HZ13.out.drew hZr hZw hvl (ownsRow_keeps hrow ((Keeps.refl (fun _ => False) _).drew) (fun _ _ e => e)) (fun k h h2 => (hsub k h h2).keeps ((Keeps.refl (fun _ => False) _).drew) (Apart3.nil _)) (by have := HN.out; omega) ?_ ?_ HK13.out.drew ?_
            · rfl
            · rfl
            · rfl
            intro c w14 p2 v9 hsb hk14 hZ14 hP14 hR14
            obtain ⟨y179, y180, y181, y182, y183, y184, y185, hc⟩ := hsb.ex [179, 180, 181, 182, 183, 184, 185] (by kernel_rfl)
            subst hc
            simp only [List.setIfInBounds_toArray, List.set_cons_zero, List.set_cons_succ]
            have HST2 := Lib.hid (show (∃ j, Hid (R4At w14 r base file L (.slice (some ⟨g, 0, none⟩) L.length cap) ov j D) ∧ Hid (partsR L nn [44] j (acc ++ [p2]) = PR) ∧ Hid (L.length + 1 ≤ j + nn ∧ (acc ++ [p2]).length ≤ j ∧ i ≤ j)) ∨ (∃ k c, Hid (PR = .error (k, c)) ∧ Hid (R4Bad w14 r file L k c)) from by
              have h9 := HS2.out
              have hN := HN.out
              have hNN := HNN.out
              rcases hR14 with ⟨k, e, ha⟩ | ⟨k, c, e, hb⟩
              · have hkk := part_lt e
                rw [e] at h9
                exact .inl ⟨k, Lib.hid ha, Lib.hid h9, Lib.hid ⟨by omega, by simp; omega, by omega⟩⟩
              · rw [e] at h9
                exact .inr ⟨k, c, Lib.hid h9.symm, Lib.hid hb⟩)
            have HZ14 := Lib.hid hZ14
            have HK14 := Lib.hid hk14
            have HP14 := Lib.hid hP14
            clear hsb hZ14 hk14 hP14 hR14 hrow hsub hvl
            go_wp2_with fail
            go_roundg nn
            case measure => have := HNN.out; omega
            case rel => exact ⟨acc ++ [p2], v9, HZ14, HP14, HK14, HST2.out⟩
        · have HPE := HE.out
          obtain ⟨hc0, lv', x', ov', hH⟩ := id HB.out
          have b3 := hH.cell 3
          have bl := hH.lt
          have hcb : (c == 0) = false := by rw [beq_eq_false_iff_ne]; exact hc0
          have HPE := Lib.hid HE.out
          clear hH hc0
          obtain ⟨va, vc, rfl⟩ := HP.out.slice
          obtain ⟨s0, s1, s2, s3, s4, s5, s6⟩ := seven_cells HZ.out
          have sl := HZ.out.lt
          go_wp2_with fail
          refine (by exact r4_add_bad wr r file L k c HB.out _ _ _ _ _ _ _ _ _ : Calls _ _ _ _ _).mono ?_
          rintro e wa ⟨rfl, haa, hka⟩
          have HBA := Lib.hid ((HK.out.trans (hka.mono (S := (· = r)) (fun _ _ e => e.elim)) (fun _ _ e => e)).below HH.out.size HLOW.out)
          have HAA := Lib.hid haa
          have HTB := Lib.hid (r4_take_bad wa r file L k c haa ⟨#[59]⟩)
          clear haa hka
          go_wp2_with fail
          refine (by exact HTB.out : Calls _ _ _ _ _).mono ?_
          rintro e wb ⟨rfl, rfl⟩
          go_wp2_with fail
          refine bodyPost_ret (results_none rfl _ _ _) rfl ?_
          rw [HPE.out]
          exact ⟨rfl, HBA.out, HAA.out⟩
  · subst e1
    have HB8 := Lib.hid hB8
    obtain ⟨hc0, lv', x', ov', hH⟩ := id hB8
    have b3 := hH.cell 3
    have bl := hH.lt
    have hcb : (c == 0) = false := by rw [beq_eq_false_iff_ne]; exact hc0
    clear hB8 hH hc0
    obtain ⟨s0, s1, s2, s3, s4, s5, s6⟩ := seven_cells HZ8.out
    have sl := HZ8.out.lt
    go_wp2_with fail
    refine (by exact r4_add_bad w8 r file L k c HB8.out _ _ _ _ _ _ _ _ _ : Calls _ _ _ _ _).mono ?_
    rintro e wa ⟨rfl, haa, hka⟩
    have HBA := Lib.hid ((HK8.out.trans (hka.mono (S := (· = r)) (fun _ _ e => e.elim)) (fun _ _ e => e)).below HH.out.size HLOW.out)
    have HAA := Lib.hid haa
    have HTB := Lib.hid (r4_take_bad wa r file L k c haa ⟨#[59]⟩)
    clear haa hka
    go_wp2_with fail
    refine (by exact HTB.out : Calls _ _ _ _ _).mono ?_
    rintro e wb ⟨rfl, rfl⟩
    go_wp2_with fail
    refine bodyPost_ret (results_none rfl _ _ _) rfl ?_
    exact ⟨rfl, HBA.out, HAA.out⟩
end Go.Proofs.YtofhcgbihonckaaGreat
namespace Go.Proofs.YtofhcgbihonckaaGreat
open Go.RowKit
theorem taken4_cases (L : List Tok) (kind : Int) (f : List UInt8 → Bool) (i : Nat) (hk : (tkN L i).kind = kind) : (f (tkN L i).text = true ∧ takenR L kind f i = .ok (i + 1)) ∨ (f (tkN L i).text = false ∧ takenR L kind f i = .error (i, 1)) := by
  cases hf : f (tkN L i).text with
  | true => exact .inl ⟨rfl, by unfold takenR; rw [if_pos hk, if_pos hf]⟩
  | false => exact .inr ⟨rfl, by unfold takenR; rw [if_pos hk, if_neg (by rw [hf]; exact Bool.false_ne_true)]⟩
theorem r4_member (r base : Nat) (file : Int) (L : List Tok) (lv : Value) (n : Nat) (hB : ∀ m, m ≤ n → B4C r base file L lv m) : M4C r base file L lv (n + 1) := by
  intro w ov i D dp h hcD hn hdp
  by_cases h7 : (tkN L i).kind = 7
  · exact r4_member_word n w r base file L lv ov i D h dp (by omega) h7 hcD
  · by_cases h5 : (tkN L i).kind = 5
    · rw [member_label h5]
      rcases taken4_cases L 5 labelT i h5 with ⟨hl, e⟩ | ⟨hl, e⟩
      · rw [e]
        show Calls _ _ _ _ (R4Out r base file L lv D (match takenR L 1 nameT (i + 1) with
          | .error e => .error e
          | .ok k => endB4 L (srcE L n (.body ⟨1, txN L i, txN L (i + 1), [], (tkN L i).line, (tkN L i).col⟩ (dp + 1)) k)) w)
        by_cases h1 : (tkN L (i + 1)).kind = 1
        · have hd := r4_member_labd n r base file L lv w ov i D h dp hdp h5 (hB n (Nat.le_refl _)) hl h1 hcD hn
          rcases taken4_cases L 1 nameT (i + 1) h1 with ⟨hm, e2⟩ | ⟨hm, e2⟩
          · rw [e2] at hd ⊢
            exact hd
          · rw [e2] at hd ⊢
            exact hd
        · have hd := r4_member_labn r base file L lv w ov i D h dp hdp h5 hl h1
          rw [show takenR L 1 nameT (i + 1) = .error (i + 1, 6) from by unfold takenR; rw [if_neg h1]]
          exact hd
      · rw [e]
        exact r4_member_labx r base file L lv w ov i D h dp hdp h5 hl
    · by_cases h1 : (tkN L i).kind = 1
      · have hlt := h.lt
        obtain ⟨m, rfl⟩ : ∃ m, n = m + 1 := ⟨n - 1, by omega⟩
        cases hb : isK L (i + 1) 4 [123] with
        | true => exact r4_member_node r base file L lv m (hB m (by omega)) w ov i D h dp hdp h1 hb hcD (by omega)
        | false =>
          by_cases h4 : (tkN L (i + 1)).kind = 4
          · exact r4_member_propB r base file L lv m w ov i D h dp hdp h1 hb hcD h4 ((isK_not (by decide) hb).resolve_left (fun h => h h4))
          · exact r4_member_propA r base file L lv m w ov i D h dp hdp h1 hb hcD h4
      · have hd := r4_member_syn w r base file L lv ov i D h dp (by omega) h7 h5 h1
        have e : srcE L (n + 1) (.member dp) i = .error (i, 6) := by
          rw [srcE, if_neg h5, if_neg h1, if_neg (by unfold isK; rw [decide_eq_false h7]; exact Bool.false_ne_true), if_neg (by unfold isK; rw [decide_eq_false h7]; exact Bool.false_ne_true)]
        rw [e]
        exact hd
theorem r4_all (r base : Nat) (file : Int) (L : List Tok) (lv : Value) : ∀ n m, m ≤ n → B4C r base file L lv m ∧ M4C r base file L lv m := by
  intro n
  induction n with
  | zero =>
    intro m hm
    obtain rfl : m = 0 := by omega
    refine ⟨fun w ov i D d dp h _ hn _ => ?_, fun w ov i D dp h _ hn _ => ?_⟩
    all_goals
      have := h.lt
      omega
  | succ n ih =>
    intro m hm
    by_cases e : m = n + 1
    · subst e
      exact ⟨r4_body r base file L lv n (fun m hm => (ih m hm).2), r4_member r base file L lv n (fun m hm => (ih m hm).1)⟩
    · exact ih m (by omega)
theorem isK7_kind {L : List Tok} {i : Nat} {s : List UInt8} (h : isK L i 7 s = true) : (tkN L i).kind = 7 := by
  unfold isK at h
  rw [Bool.and_eq_true, decide_eq_true_eq] at h
  exact h.1
theorem r4_top (r base : Nat) (file : Int) (L : List Tok) (lv : Value) (w : World) (ov : Value) (i : Nat) (D : List DefT) (h : R4At w r base file L lv ov i D) (hcD : D.length ≤ 2 * i) :
    Calls Tryz.prog 34 #[.pointer (some ⟨r, 0, none⟩)] w (R4Out r base file L lv D (topR L i) w) := by
  have hB := (r4_all r base file L lv (fuelS L) _ (Nat.le_refl _)).1
  have h47 : isK L i 4 [47] = true → (tkN L i).kind = 4 := fun e => (isK_sign (by decide) e).1
  unfold topR
  by_cases h5 : (tkN L i).kind = 5
  · rw [if_pos h5]
    rcases taken4_cases L 5 labelT i h5 with ⟨hl, e⟩ | ⟨hl, e⟩
    · rw [e]
      show Calls _ _ _ _ (R4Out r base file L lv D (match signR L [47] (i + 1) with
        | .error e => .error e
        | .ok k => endR L ⟨1, txN L i, ⟨#[47]⟩, [], (tkN L i).line, (tkN L i).col⟩ k) w)
      cases hs : isK L (i + 1) 4 [47] with
      | true =>
        rw [show signR L [47] (i + 1) = .ok (i + 1 + 1) from by unfold signR; rw [if_pos hs]]
        exact r4_top_lab r base file L lv w ov i D h hB h5 hl hs hcD
      | false =>
        rw [show signR L [47] (i + 1) = .error (i + 1, 6) from by unfold signR; rw [if_neg (by rw [hs]; exact Bool.false_ne_true)]]
        exact r4_top_labn r base file L lv w ov i D h h5 hl hs
    · rw [e]
      exact r4_top_labx r base file L lv w ov i D h h5 hl
  · rw [if_neg h5]
    cases hs : isK L i 4 [47] with
    | true =>
      have hk := h47 hs
      have n7 : ∀ s, isK L i 7 s = false := fun s => by unfold isK; rw [decide_eq_false (by rw [hk]; decide)]; rfl
      rw [if_pos rfl]
      exact r4_top_slash r base file L lv w ov i D h hB (n7 _) (n7 _) h5 (by rw [hk]; decide) hs hcD
    | false =>
      rw [if_neg Bool.false_ne_true]
      by_cases h6 : (tkN L i).kind = 6
      · rw [if_pos h6]
        have hd := r4_top_ref r base file L lv w ov i D h hB h6 hcD
        rcases taken4_cases L 6 labelT i h6 with ⟨hl, e⟩ | ⟨hl, e⟩
        · rw [e] at hd ⊢
          exact hd
        · rw [e] at hd ⊢
          exact hd
      · rw [if_neg h6]
        cases h1 : isK L i 7 [105, 110, 99, 108, 117, 100, 101] with
        | true =>
          rw [if_pos rfl]
          exact r4_top_incl w r base file L lv ov i D h (isK7_kind h1) h1 hcD
        | false =>
          rw [if_neg Bool.false_ne_true]
          cases h2 : isK L i 7 [100, 101, 108, 101, 116, 101, 45, 110, 111, 100, 101] with
          | true =>
            rw [if_pos rfl]
            exact r4_top_deln w r base file L lv ov i D h (isK7_kind h2) h1 h2 hcD
          | false =>
            rw [if_neg Bool.false_ne_true]
            exact r4_top_none r base file L lv w ov i D h h1 h2 h5 h6 hs
theorem topR_on {L : List Tok} {i j : Nat} {ds : List DefT} (h : topR L i = .ok (j, ds)) : i < j := by
  have hend : ∀ {d : DefT} {k : Nat}, i ≤ k → endR L d k = .ok (j, ds) → i < j := by
    intro d k hk h
    unfold endR at h
    cases h1 : srcE L (fuelS L) (.body d 0) k with
    | error e => rw [h1] at h; cases h
    | ok q =>
      rw [h1] at h
      obtain ⟨m, xs⟩ := q
      obtain ⟨_, _, a, _⟩ := (src_pairs L (fuelS L)).1 _ _ _ _ _ h1
      simp only at h
      unfold signR at h
      split at h
      · cases h
      · rename_i h2
        split at h2
        · cases h2; cases h; omega
        · cases h2
  have hdel : ∀ {kind what : Int} {b : List UInt8} {f : List UInt8 → Bool}, delR L kind what b f i = .ok (j, ds) → i < j := by
    intro kind what b f h
    unfold delR at h
    cases h1 : takenR L what f (i + 1) with
    | error e => rw [h1] at h; cases h
    | ok m =>
      rw [h1] at h
      have := taken4_ok h1
      simp only at h
      unfold signR at h
      split at h
      · cases h
      · rename_i h2
        split at h2
        · cases h2; cases h; omega
        · cases h2
  unfold topR at h
  split at h
  · cases h1 : takenR L 5 labelT i with
    | error e => rw [h1] at h; cases h
    | ok a =>
      rw [h1] at h
      have ha := taken4_ok h1
      simp only at h
      cases h2 : signR L [47] a with
      | error e => rw [h2] at h; cases h
      | ok b =>
        rw [h2] at h
        unfold signR at h2
        split at h2
        · cases h2; exact hend (by omega) h
        · cases h2
  · split at h
    · exact hend (by omega) h
    · split at h
      · cases h1 : takenR L 6 labelT i with
        | error e => rw [h1] at h; cases h
        | ok a =>
          rw [h1] at h
          have ha := taken4_ok h1
          exact hend (by omega) h
      · split at h
        · exact hdel h
        · split at h
          · exact hdel h
          · cases h
end Go.Proofs.YtofhcgbihonckaaGreat
namespace Go.Proofs.YtofhcgbihonckaaGreat
open Go.RowKit
set_option maxRecDepth 100000 in
set_option maxHeartbeats 8000000 in
theorem r4_Read (s : ByteArray) (file : Int) (w : World) (hs : s.size ≤ maxLen) :
    Calls Tryz.prog 14 #[.string s, .int .i64 file] w (SrcPost s file w) := by
  have hb0 : Below w.heap.size w (w.alloc (.cells #[.int .i64 0, .int .i64 0, .int .i64 0] 27)) := (Below.refl _ _).alloc (Nat.le_refl _) _
  have hZ0 := Holds.new w #[.int .i64 0, .int .i64 0, .int .i64 0] 27
  have hrd := ref_Read s file (w.alloc (.cells #[.int .i64 0, .int .i64 0, .int .i64 0] 27)) hs
  have htx := readT_text s.data.toList file
  unfold ReadPost posAgg at hrd
  unfold SrcPost
  have hT : ∃ T, srcT s.data.toList file = T := ⟨_, rfl⟩
  obtain ⟨T, hT⟩ := hT
  rw [hT]
  unfold srcT at hT
  generalize readT s.data.toList file = RT at *
  obtain ⟨L, ⟨p1, p2, p3⟩, er⟩ := RT
  simp only at hrd htx hT
  unfold posAgg
  have hsz : (w.alloc (.cells #[.int .i64 0, .int .i64 0, .int .i64 0] 27)).heap.size = w.heap.size + 1 := by simp
  go_enter Tryz.func14, Tryz.ntmps14
  go_wp2_with fail
  generalize w.alloc (.cells #[.int .i64 0, .int .i64 0, .int .i64 0] 27) = w0 at *
  refine (by exact hrd : Calls _ _ _ _ _).mono ?_
  rintro e w1 ⟨lv, rfl, hrow, hb1⟩
  have kb1 : Keeps (fun _ => False) w0 w1 := Keeps.of_fresh hb1 _
  have hK1 : Keeps (fun _ => False) w w1 := (Keeps.of_fresh hb0 (fun _ => False)).trans kb1 (fun _ _ e => e)
  have hZ1 := hZ0.keeps kb1 (fun e => e)
  have hZ2 := hZ1.alloc (.cells #[.int .i64 p1, .int .i64 p2, .int .i64 p3] 27)
  have hP2 := Holds.new w1 #[.int .i64 p1, .int .i64 p2, .int .i64 p3] 27
  have hK2 := hK1.alloc (.cells #[.int .i64 p1, .int .i64 p2, .int .i64 p3] 27)
  have hrow2 := World.ownsRow.alloc hrow (.cells #[.int .i64 p1, .int .i64 p2, .int .i64 p3] 27)
  have hzl := hZ1.lt
  clear hrd hb0 hZ0 hb1 kb1 hK1 hrow
  by_cases he : er = 0
  · subst he
    rw [if_neg (by simp)] at hT
    obtain ⟨ts, t, hLe, h8⟩ := htx.2.2 rfl
    have hok : LOk L := ⟨htx.2.1, htx.1, ts, t, hLe, h8⟩
    have hne : L ≠ [] := by rw [hLe]; simp
    have hpos : 0 < L.length := List.length_pos_iff.2 hne
    have hti := tokIn_row (B := (w1.alloc (.cells #[.int .i64 p1, .int .i64 p2, .int .i64 p3] 27)).heap.size) hrow2 hne (Nat.le_refl _)
    obtain ⟨gL, cL, rfl, _⟩ := id hti
    have hbase : (w1.alloc (.cells #[.int .i64 p1, .int .i64 p2, .int .i64 p3] 27)).heap.size = w1.heap.size + 1 := by simp
    have hA3 : R4At ((w1.alloc (.cells #[.int .i64 p1, .int .i64 p2, .int .i64 p3] 27)).alloc (.cells #[.slice (some ⟨gL, 0, none⟩) L.length cL, .int .i64 0, .slice none 0 0, .int .i64 0, .int .i64 0, .int .i64 0, .int .i64 0] 78)) (w1.heap.size + 1) (w1.alloc (.cells #[.int .i64 p1, .int .i64 p2, .int .i64 p3] 27)).heap.size file L (.slice (some ⟨gL, 0, none⟩) L.length cL) (.slice none 0 0) 0 [] :=
      ⟨Holds.newAt (by simp) _ _, hti.keeps ((Keeps.refl (fun _ => False) _).alloc _) (fun _ e => e.elim), DefsRow.none _ _ _, by simp, by simp, hpos, hok, Nat.zero_le _⟩
    have hZ3 := hZ2.alloc (.cells #[.slice (some ⟨gL, 0, none⟩) L.length cL, .int .i64 0, .slice none 0 0, .int .i64 0, .int .i64 0, .int .i64 0, .int .i64 0] 78)
    have hK3 := hK2.alloc (.cells #[.slice (some ⟨gL, 0, none⟩) L.length cL, .int .i64 0, .slice none 0 0, .int .i64 0, .int .i64 0, .int .i64 0, .int .i64 0] 78)
    have hw1 : w.heap.size < w1.heap.size := hzl
    have hfu : L.length < 0 + fuelP L := by unfold fuelP; omega
    generalize hN : fuelP L = N at *
    generalize hTR : topsR L N 0 [] = TR at *
    have HTR := Lib.hid hTR
    have hlen := htx.2.1
    rw [hbase] at hA3
    clear hP2 hrow2 hti hZ2 hK2 hN hTR htx hok hLe hbase
    go_wp2_with fail
    generalize (w1.alloc (.cells #[.int .i64 p1, .int .i64 p2, .int .i64 p3] 27)).alloc (.cells #[.slice (some ⟨gL, 0, none⟩) L.length cL, .int .i64 0, .slice none 0 0, .int .i64 0, .int .i64 0, .int .i64 0, .int .i64 0] 78) = w3 at *
    go_loopg [] N (fun f wr => Hid (Keeps (fun b => w1.heap.size + 1 ≤ b) w3 wr) ∧ ((∃ (j : Nat) (acc : List DefT) (ov : Value), Hid (topsR L f j acc = TR) ∧ Hid (L.length < j + f ∧ acc.length ≤ 2 * j) ∧ Hid (R4At wr (w1.heap.size + 1) (w1.heap.size + 1) file L (.slice (some ⟨gL, 0, none⟩) L.length cL) ov j acc)) ∨ (∃ k c, Hid (TR = .error (k, c)) ∧ Hid (R4Bad wr (w1.heap.size + 1) file L k c))))
    case atStart => exact ⟨Lib.hid (Keeps.refl _ _), .inl ⟨0, [], .slice none 0 0, HTR, Lib.hid ⟨hfu, Nat.zero_le _⟩, Lib.hid hA3⟩⟩
    case round =>
      obtain ⟨HK, ⟨j, acc, ov, HR, HN, HA⟩ | ⟨k, c, HE, HBD⟩⟩ := hrel
      · obtain ⟨f, hf⟩ : ∃ f, gk = f + 1 := ⟨gk - 1, by have := HN.out; have := HA.out.lt; omega⟩
        have hS := HR.out
        rw [hf, topsR] at hS
        have hA := HA.out
        obtain ⟨c0, c1, c2, c3, c4, c5, c6, _, _, _, _, _, _, cl⟩ := hA.cells
        obtain ⟨n1, n2⟩ := hA.num
        obtain ⟨g', cap', eg, hg', d0, _⟩ := hA.toks.at hA.lt
        cases eg
        have gl := World.block_lt_of_cell? wr _ d0
        have HF := Lib.hid hf
        by_cases h8 : (tkN L j).kind = 8
        · rw [if_pos h8] at hS
          rw [h8] at d0
          subst hS
          simp only at hT
          subst hT
          have hZ4 := hZ3.keeps HK.out (by omega)
          have hK5 : Keeps (fun _ => False) w wr := hK3.trans (HK.out.mono (S := fun b => w.heap.size < b) (fun b _ e => by omega)) (fun b hb e => by omega)
          obtain ⟨n0, n1', n2', nf0, nf1, nf2, nl⟩ := three hZ4
          have hd := hA.defs
          obtain ⟨oa, oc, rfl⟩ := hd.slice
          have HD := Lib.hid hd
          have HZ4 := Lib.hid hZ4
          have HK5 := Lib.hid hK5
          clear hd hZ4 hK5 hA h8 hf
          go_wp2_with fail
          have z1 := set_three HZ4.out (.int .i64 0) (.int .i64 0) (.int .i64 0)
          have z2 := set3_keeps (S := fun _ => False) HK5.out (B := w.heap.size) (.inl (Nat.le_refl _)) (.int .i64 0) (.int .i64 0) (.int .i64 0)
          have z3 := (HD.out.keeps (set3_keeps (S := (· = w.heap.size)) (Keeps.refl _ wr) (.inr rfl) (.int .i64 0) (.int .i64 0) (.int .i64 0)) (Apart3.one HZ4.out (by decide) (by decide) (by decide))).lower (show w.heap.size ≤ w1.heap.size + 1 by omega)
          unfold set3 at z1 z2 z3
          obtain ⟨q0, q1, q2, _⟩ := three z1
          exact bodyPost_ret (v := .tuple #[.slice oa acc.length oc, .agg #[.int .i64 0, .int .i64 0, .int .i64 0], .int .i64 0]) (by simp [results, Tryz.results14, go_sem, q0, q1, q2]) rfl ⟨_, rfl, z3, z2.below (Nat.le_refl _) (fun _ _ e => e)⟩
        · rw [if_neg h8] at hS
          have h8b : ((tkN L j).kind != 8) = true := by simpa using h8
          have htp := Lib.hid (r4_top (w1.heap.size + 1) (w1.heap.size + 1) file L (.slice (some ⟨gL, 0, none⟩) L.length cL) wr ov j acc hA HN.out.2)
          have HON := Lib.hid (fun m ds h => @topR_on L j m ds h)
          have HS := Lib.hid hS
          generalize topR L j = PR at *
          generalize (tkN L j).kind = kd at *
          clear h8 hA hS hf
          go_wp2_with fail
          refine (by exact htp.out : Calls _ _ _ _ _).mono ?_
          rintro e w5 ⟨rfl, hb5, hm⟩
          have HK5 := Lib.hid (HK.out.trans (Keeps.of_below hb5) (S := (fun b => w1.heap.size + 1 ≤ b)) (fun _ _ e => e))
          clear hb5
          cases PR with
          | ok q =>
            obtain ⟨k, ds⟩ := q
            obtain ⟨ov6, hA6, hc6⟩ := hm
            have hjk := HON.out k ds rfl
            have HA6 := Lib.hid hA6
            have HC6 := Lib.hid hc6
            have HS2 := Lib.hid HS.out
            clear hA6 hc6
            go_wp2_with fail
            go_roundg f
            case measure => have := HF.out; omega
            case rel => exact ⟨HK5, .inl ⟨k, acc ++ ds, ov6, HS2, Lib.hid (by have := HN.out; have := HF.out; have h3 := HC6.out; rw [List.length_append]; omega), HA6⟩⟩
          | error q =>
            obtain ⟨k, c⟩ := q
            have HBD := Lib.hid hm
            have HS2 := Lib.hid HS.out
            clear hm
            go_wp2_with fail
            go_roundg f
            case measure => have := HF.out; omega
            case rel => exact ⟨HK5, .inr ⟨k, c, Lib.hid HS2.out.symm, HBD⟩⟩
      · have hE := HE.out
        subst hE
        simp only at hT
        subst hT
        obtain ⟨hc0, lv', x', ov', hH⟩ := id HBD.out
        have c3 := hH.cell 3
        have c4 := hH.cell 4
        have c5 := hH.cell 5
        have c6 := hH.cell 6
        have crl := hH.lt
        have hcb : (c == 0) = false := by rw [beq_eq_false_iff_ne]; exact hc0
        have hcb2 : (c != 0) = true := by rw [bne_iff_ne]; exact hc0
        have hZ5 := hZ3.keeps HK.out (by omega)
        have hK6 : Keeps (fun _ => False) w wr := hK3.trans (HK.out.mono (S := fun b => w.heap.size < b) (fun b _ e => by omega)) (fun b hb e => by omega)
        obtain ⟨n0, n1, n2, nf0, nf1, nf2, nl⟩ := three hZ5
        obtain ⟨ln, hln⟩ : ∃ z, z = (tkN L k).line := ⟨_, rfl⟩
        obtain ⟨cl, hcl⟩ : ∃ z, z = (tkN L k).col := ⟨_, rfl⟩
        rw [← hln] at c5
        rw [← hcl] at c6
        have HLN := Lib.hid hln
        have HCL := Lib.hid hcl
        have HZ5 := Lib.hid hZ5
        have HK6 := Lib.hid hK6
        clear hln hcl hZ5 hK6 hH hc0
        go_wp2_with fail
        go_region
        all_goals
          go_wp2_with fail
          have z1 := (set_three HZ5.out (.int .i64 file) (.int .i64 ln) (.int .i64 cl)).drew
          have z2 := (set3_keeps (S := fun _ => False) HK6.out (B := w.heap.size) (.inl (Nat.le_refl _)) (.int .i64 file) (.int .i64 ln) (.int .i64 cl)).drew
          unfold set3 at z1 z2
          obtain ⟨q0, q1, q2, _⟩ := three z1
          exact bodyPost_ret (v := .tuple #[.slice none 0 0, .agg #[.int .i64 file, .int .i64 ln, .int .i64 cl], .int .i64 c]) (by simp [results, Tryz.results14, go_sem, q0, q1, q2]) rfl ⟨_, (by rw [HLN.out, HCL.out]), DefsRow.none _ _ _, z2.below (Nat.le_refl _) (fun _ _ e => e)⟩
  · rw [if_pos he] at hT
    subst hT
    have heb : (er != 0) = true := by simpa using he
    obtain ⟨n0, n1, n2, nf0, nf1, nf2, nl⟩ := three hZ2
    obtain ⟨m0, m1, m2, mf0, mf1, mf2, ml⟩ := three hP2
    obtain ⟨va, vc, rfl⟩ := row_slice hrow2
    have HZ2 := Lib.hid hZ2
    have HK2 := Lib.hid hK2
    clear he htx hZ2 hK2 hP2 hrow2
    go_wp2_with fail
    generalize w1.alloc (.cells #[.int .i64 p1, .int .i64 p2, .int .i64 p3] 27) = w2 at *
    go_region
    all_goals
      go_wp2_with fail
      have z1 := (set_three HZ2.out (.int .i64 p1) (.int .i64 p2) (.int .i64 p3)).drew
      have z2 := (set3_keeps (S := fun _ => False) HK2.out (B := w.heap.size) (.inl (Nat.le_refl _)) (.int .i64 p1) (.int .i64 p2) (.int .i64 p3)).drew
      unfold set3 at z1 z2
      obtain ⟨q0, q1, q2, _⟩ := three z1
      exact bodyPost_ret (v := .tuple #[.slice none 0 0, .agg #[.int .i64 p1, .int .i64 p2, .int .i64 p3], .int .i64 er]) (by simp [results, Tryz.results14, go_sem, q0, q1, q2]) rfl ⟨_, rfl, DefsRow.none _ _ _, z2.below (Nat.le_refl _) (fun _ _ e => e)⟩
end Go.Proofs.YtofhcgbihonckaaGreat
