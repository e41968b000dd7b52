/- include: small facts for load's loop (plain and of memory). | include, in plain Lean: what a loading leaves is sound. | include: load: the loader in memory, what holds in its loop. | include: load: what its loop leaves behind each definition, and at its end. | slices.Clone at definitions, parts, cells (printed by gclone.py). | include, in plain Lean: what is loaded does not depend on files that are not included, nor on the order of the files. | include, in plain Lean: how long definitions are. | Contracts of include: copies of definitions. | Contracts of include: copied. | include: load: the if within its loop: where nothing new is read (printed by gld.py) | include: load: the if within its loop: where a file is read (printed by gld.py) -/
import Derived.Test.YtofhcgbihonckaaGreatZ20
import Derived.Test.YtofhcgbihonckaaGreatZ19
import Derived.Test.YtofhcgbihonckaaGreatZ9
import Derived.Test.YtofhcgbihonckaaGreatZ6
import Derived.Test.YtofhcgbihonckaaGreatZ1
import Derived.Test.YtofhcgbihonckaaGreatZ21
import Derived.Test.YtofhcgbihonckaaGreatZ15
import Derived.StillTailTactics
import Derived.Deep.DeepCutAuto
import Derived.Deep.CutBlock
import Derived.Deep.CutRange
import Derived.Deep.LoopGhost
import Derived.Deep.RegionWith

set_option linter.unusedVariables false
set_option linter.unusedSimpArgs false
set_option linter.unusedSectionVars false

namespace Go.Proofs.YtofhcgbihonckaaGreat
open Go.RowKit

theorem nats_row {w : World} {base : Nat} {v : Value} {l : List Nat} (h : w.ownsRow base 3 1 v l.length (l.map fun (n : Nat) => Value.int .i64 (n : Int))) : NatsAt w v l := by
  rcases h.2 with ⟨rfl, h0⟩ | ⟨g, cap, cur, rfl, hb, hh, hcap, hm, hs, ht⟩
  · exact ⟨none, 0, by rw [h0], by omega, fun h1 => by omega⟩
  · refine ⟨_, cap, rfl, hcap, fun h0 => ⟨g, 0, rfl, fun i hi => ?_⟩⟩
    rw [Nat.zero_add, h.cellAt i (by omega)]
    simp [hi]
theorem findF_lt {F : List FileT} {s : ByteArray} {k : Nat} (h : findF F s = some k) : k < F.length := by
  unfold findF at h
  rw [List.findIdx?_eq_some_iff_getElem] at h
  exact h.1
/-- A definition at a place of a file's. -/
theorem tag_drop (file : Int) (D : List DefT) (i : Nat) (hi : i < D.length) : (tagT file D).drop i = (file, D[i]) :: (tagT file D).drop (i + 1) := by
  have hl : i < (tagT file D).length := by simpa [tagT] using hi
  rw [List.drop_eq_getElem_cons hl]
  simp [tagT]
theorem tag_end (file : Int) (D : List DefT) : (tagT file D).drop D.length = [] := List.drop_eq_nil_of_le (by simp [tagT])
/-- One more definition of the file itself. -/
theorem loop_def {go : List ByteArray → GivT → Nat → Nat → Lr} {F : List FileT} {opn : List Nat} {before : Nat} {d : FdT} {r : List FdT} {ord : List ByteArray} {giv : GivT} {out : List FdT} (h : d.2.kind ≠ 6) :
    ldLoop go F opn before (d :: r) ord giv out = if roomT before out < 1 then .error (posD ([d].getD (roomT before out) zeroD), 3) else ldLoop go F opn before r ord giv (out ++ [d]) := by
  simp only [ldLoop, if_pos h]
  rfl
theorem loop_none {go : List ByteArray → GivT → Nat → Nat → Lr} {F : List FileT} {opn : List Nat} {before : Nat} {d : FdT} {r : List FdT} {ord : List ByteArray} {giv : GivT} {out : List FdT} (h : d.2.kind = 6) (hf : findF F d.2.name = none) :
    ldLoop go F opn before (d :: r) ord giv out = .error (posD d, 4) := by
  simp only [ldLoop, if_neg (Decidable.not_not.2 h), hf]
theorem loop_circle {go : List ByteArray → GivT → Nat → Nat → Lr} {F : List FileT} {opn : List Nat} {before : Nat} {d : FdT} {r : List FdT} {ord : List ByteArray} {giv : GivT} {out : List FdT} {k : Nat} (h : d.2.kind = 6) (hf : findF F d.2.name = some k) (hk : opn.contains k = true) :
    ldLoop go F opn before (d :: r) ord giv out = .error (posD d, 10) := by
  simp only [ldLoop, if_neg (Decidable.not_not.2 h), hf, if_pos hk]
theorem loop_known {go : List ByteArray → GivT → Nat → Nat → Lr} {F : List FileT} {opn : List Nat} {before : Nat} {d : FdT} {r : List FdT} {ord : List ByteArray} {giv : GivT} {out l : List FdT} {k : Nat} (h : d.2.kind = 6) (hf : findF F d.2.name = some k) (hk : opn.contains k = false) (hg : givT giv k = some l) :
    ldLoop go F opn before (d :: r) ord giv out = if roomT before out < l.length then .error (posD (l.getD (roomT before out) zeroD), 3) else ldLoop go F opn before r ord giv (out ++ l) := by
  simp only [ldLoop, if_neg (Decidable.not_not.2 h), hf, hk, Bool.false_eq_true, if_false, hg]
theorem loop_new {go : List ByteArray → GivT → Nat → Nat → Lr} {F : List FileT} {opn : List Nat} {before : Nat} {d : FdT} {r : List FdT} {ord : List ByteArray} {giv : GivT} {out : List FdT} {k : Nat} (h : d.2.kind = 6) (hf : findF F d.2.name = some k) (hk : opn.contains k = false) (hg : givT giv k = none) :
    ldLoop go F opn before (d :: r) ord giv out = match go ord giv k (before + out.length) with
      | .error e => .error e
      | .ok (ord', giv', l) => if roomT before out < l.length then .error (posD (l.getD (roomT before out) zeroD), 3) else ldLoop go F opn before r ord' giv' (out ++ l) := by
  simp only [ldLoop, if_neg (Decidable.not_not.2 h), hf, hk, Bool.false_eq_true, if_false, hg]
  rfl
end Go.Proofs.YtofhcgbihonckaaGreat

namespace Go.Proofs.YtofhcgbihonckaaGreat
open Go.RowKit

theorem nodup_lt : ∀ (n : Nat) (l : List Nat), l.Nodup → (∀ k ∈ l, k < n) → l.length ≤ n
  | 0, [], _, _ => Nat.le_refl _
  | 0, a :: l, _, h => absurd (h a List.mem_cons_self) (by omega)
  | n + 1, l, hd, h => by
    have h1 := nodup_lt n (l.erase n) (hd.erase n) (fun k hk => by
      have h2 := (hd.mem_erase_iff).1 hk
      have := h k h2.2
      omega)
    by_cases hm : n ∈ l
    · rw [List.length_erase_of_mem hm] at h1; omega
    · rw [List.erase_of_not_mem hm] at h1; omega
/-- The number of a text's definitions. -/
theorem src_short (l : List UInt8) (file : Int) : (srcT l file).1.length ≤ 6001 := by
  have h8 := (readT_text l file).2.1
  rcases src_law l file with ⟨_, _, hi, ⟨ks, e, hp, hk⟩, _⟩ | h
  · have hl : (srcT l file).1.length = ks.length := by
      have := congrArg List.length e
      simpa using this
    have h1 := nodup_lt (readT l file).1.length ks (hp.imp (fun hab e => by omega)) (fun k hkm => by
      have h2 := (hk k hkm).2.2
      rcases Nat.lt_or_ge k (readT l file).1.length with c | c
      · exact c
      · exact absurd (by unfold tkN; rw [List.getD_eq_getElem?_getD, List.getElem?_eq_none c]; rfl) h2)
    omega
  · rcases h with h | h
    · unfold srcT at h ⊢
      split
      · simp
      · split
        · rename_i h1 _ _ h2
          rw [if_neg h1, h2] at h
          exact absurd rfl h
        · simp
    · rw [h]; simp
/-- What has been given, and the names: of different files, none of them open. -/
structure GivOk (F : List FileT) (opn : List Nat) (ord : List ByteArray) (giv : GivT) : Prop where
  keys : ∃ ks : List Nat, giv.map (·.1) = ks.map (fun k : Nat => (k : Int)) ∧ (ks ++ opn).Nodup ∧ ∀ k ∈ ks ++ opn, k < F.length
  len : ∀ p ∈ giv, p.2.length ≤ 6000
  ord : ord.length = giv.length + opn.length
section
variable {F : List FileT} {opn : List Nat} {ord : List ByteArray} {giv : GivT}
theorem GivOk.short (h : GivOk F opn ord giv) : giv.length + opn.length ≤ F.length := by
  obtain ⟨ks, e, hn, hk⟩ := h.keys
  have := nodup_lt _ _ hn hk
  have hl := congrArg List.length e
  simp only [List.length_map, List.length_append] at this hl
  omega
theorem GivOk.opnd (h : GivOk F opn ord giv) : opn.Nodup ∧ ∀ k ∈ opn, k < F.length := by
  obtain ⟨ks, e, hn, hk⟩ := h.keys
  exact ⟨(List.nodup_append.1 hn).2.1, fun k hm => hk k (List.mem_append_right _ hm)⟩
theorem givT_none {k : Nat} (h : givT giv k = none) : ∀ p ∈ giv, p.1 ≠ (k : Int) := by
  intro p hp e
  unfold givT at h
  rw [Option.map_eq_none_iff, List.find?_eq_none] at h
  exact h p hp (by simp [e])
theorem givT_some {k : Nat} {l : List FdT} (h : givT giv k = some l) : ∃ i, ∃ h : i < giv.length, giv[i] = ((k : Int), l) := by
  unfold givT at h
  rw [Option.map_eq_some_iff] at h
  obtain ⟨⟨a, b⟩, h1, h2⟩ := h
  have hm := List.mem_of_find?_eq_some h1
  have hk := List.find?_some h1
  simp only [decide_eq_true_eq] at hk h2
  obtain ⟨i, hi, e⟩ := List.getElem_of_mem hm
  exact ⟨i, hi, by rw [e, hk, h2]⟩
/-- One more file is open. -/
theorem GivOk.open1 (h : GivOk F opn ord giv) {file : Nat} (hf : file < F.length) (hn : file ∉ opn) (hg : givT giv file = none) (s : ByteArray) : GivOk F (opn ++ [file]) (ord ++ [s]) giv := by
  obtain ⟨ks, e, hd, hk⟩ := h.keys
  refine ⟨⟨ks, e, ?_, ?_⟩, h.len, by have := h.ord; simp only [List.length_append, List.length_cons, List.length_nil]; omega⟩
  · rw [← List.append_assoc, List.nodup_append]
    refine ⟨hd, by simp, fun a ha b hb => ?_⟩
    simp only [List.mem_singleton] at hb
    subst hb
    rintro rfl
    rcases List.mem_append.1 ha with hm | hm
    · have : ((a : Nat) : Int) ∈ giv.map (·.1) := by rw [e]; exact List.mem_map.2 ⟨a, hm, rfl⟩
      obtain ⟨p, hp, e2⟩ := List.mem_map.1 this
      exact givT_none hg p hp e2
    · exact hn hm
  · intro k hm
    rw [← List.append_assoc] at hm
    rcases List.mem_append.1 hm with hm | hm
    · exact hk k hm
    · simp only [List.mem_singleton] at hm; subst hm; exact hf
/-- A file has been read. -/
theorem GivOk.close1 {file : Nat} (h : GivOk F (opn ++ [file]) ord giv) {out : List FdT} (ho : out.length ≤ 6000) : GivOk F opn ord (giv ++ [((file : Int), out)]) := by
  obtain ⟨ks, e, hd, hk⟩ := h.keys
  have hp : (ks ++ [file] ++ opn).Perm (ks ++ (opn ++ [file])) := by
    rw [List.append_assoc]
    exact List.Perm.append_left ks List.perm_append_comm
  refine ⟨⟨ks ++ [file], by simp [e], hp.nodup_iff.2 hd, fun k hm => hk k (hp.mem_iff.1 hm)⟩, fun p hm => ?_, ?_⟩
  · rcases List.mem_append.1 hm with hm | hm
    · exact h.len p hm
    · simp only [List.mem_singleton] at hm; subst hm; exact ho
  · have := h.ord
    simp only [List.length_append, List.length_cons, List.length_nil] at this ⊢
    omega
end
def GoOk (F : List FileT) (opn : List Nat) (go : List ByteArray → GivT → Nat → Nat → Lr) : Prop :=
  ∀ ord giv k b ord' giv' o, go ord giv k b = .ok (ord', giv', o) → GivOk F opn ord giv → k < F.length → k ∉ opn → givT giv k = none → b ≤ 6000 → GivOk F opn ord' giv' ∧ b + o.length ≤ 6000
theorem ldLoop_ok {F : List FileT} {opn : List Nat} {go : List ByteArray → GivT → Nat → Nat → Lr} (hgo : GoOk F opn go) (before : Nat) : ∀ (r : List FdT) (ord : List ByteArray) (giv : GivT) (out : List FdT) (ord' : List ByteArray) (giv' : GivT) (out' : List FdT),
    ldLoop go F opn before r ord giv out = .ok (ord', giv', out') → GivOk F opn ord giv → before + out.length ≤ 6000 → GivOk F opn ord' giv' ∧ before + out'.length ≤ 6000
  | [], ord, giv, out, ord', giv', out', h, hg, hb => by
    simp only [ldLoop, Except.ok.injEq, Prod.mk.injEq] at h
    obtain ⟨rfl, rfl, rfl⟩ := h
    exact ⟨hg, hb⟩
  | d :: r, ord, giv, out, ord', giv', out', h, hg, hb => by
    by_cases hk : d.2.kind = 6
    · cases hf : findF F d.2.name with
      | none => rw [loop_none hk hf] at h; cases h
      | some k =>
        cases ho : opn.contains k with
        | true => rw [loop_circle hk hf ho] at h; cases h
        | false =>
          have hkn : k ∉ opn := fun hm => by rw [List.contains_iff_mem.2 hm] at ho; cases ho
          cases hv : givT giv k with
          | some l =>
            rw [loop_known hk hf ho hv] at h
            split at h
            · cases h
            · rename_i hr
              exact ldLoop_ok hgo before r _ _ _ _ _ _ h hg (by unfold roomT at hr; rw [List.length_append]; omega)
          | none =>
            rw [loop_new hk hf ho hv] at h
            cases hgo2 : go ord giv k (before + out.length) with
            | error e => rw [hgo2] at h; cases h
            | ok x =>
              obtain ⟨o1, g1, l⟩ := x
              rw [hgo2] at h
              simp only at h
              obtain ⟨q1, q2⟩ := hgo _ _ _ _ _ _ _ hgo2 hg (findF_lt hf) hkn hv hb
              split at h
              · cases h
              · exact ldLoop_ok hgo before r _ _ _ _ _ _ h q1 (by rw [List.length_append]; omega)
    · rw [loop_def hk] at h
      split at h
      · cases h
      · rename_i hr
        exact ldLoop_ok hgo before r _ _ _ _ _ _ h hg (by unfold roomT at hr; rw [List.length_append, List.length_singleton]; omega)
/-- What a loading leaves is sound. -/
theorem ldT_ok (F : List FileT) : ∀ (f : Nat) (opn : List Nat), GoOk F opn (ldT F f opn)
  | 0, opn => fun ord giv k b ord' giv' o h => by simp only [ldT] at h; cases h
  | f + 1, opn => fun ord giv k b ord' giv' o h hg hk hn hv hb => by
    simp only [ldT] at h
    split at h
    · cases h
    · cases hl : ldLoop (ldT F f (opn ++ [k])) F (opn ++ [k]) b (tagT k (srcT (F.getD k ⟨⟨#[]⟩, ⟨#[]⟩⟩).text.data.toList k).1) (ord ++ [(F.getD k ⟨⟨#[]⟩, ⟨#[]⟩⟩).name]) giv [] with
      | error e => rw [hl] at h; cases h
      | ok x =>
        obtain ⟨o1, g1, l⟩ := x
        rw [hl] at h
        simp only [Except.ok.injEq, Prod.mk.injEq] at h
        obtain ⟨rfl, rfl, rfl⟩ := h
        obtain ⟨q1, q2⟩ := ldLoop_ok (ldT_ok F f (opn ++ [k])) b _ _ _ _ _ _ _ hl (hg.open1 hk hn hv _) (by simpa using hb)
        exact ⟨q1.close1 (by omega), q2⟩
theorem ldLoop_err {F : List FileT} {opn : List Nat} {go : List ByteArray → GivT → Nat → Nat → Lr} (hgo : ∀ ord giv k b p er, go ord giv k b = .error (p, er) → er ≠ 0) (before : Nat) : ∀ (r : List FdT) (ord : List ByteArray) (giv : GivT) (out : List FdT) (p : PosT) (er : Int),
    ldLoop go F opn before r ord giv out = .error (p, er) → er ≠ 0
  | [], ord, giv, out, p, er, h => by simp only [ldLoop] at h; cases h
  | d :: r, ord, giv, out, p, er, h => by
    by_cases hk : d.2.kind = 6
    · cases hf : findF F d.2.name with
      | none => rw [loop_none hk hf] at h; cases h; decide
      | some k =>
        cases ho : opn.contains k with
        | true => rw [loop_circle hk hf ho] at h; cases h; decide
        | false =>
          cases hv : givT giv k with
          | some l =>
            rw [loop_known hk hf ho hv] at h
            split at h
            · cases h; decide
            · exact ldLoop_err hgo before r _ _ _ _ _ h
          | none =>
            rw [loop_new hk hf ho hv] at h
            cases hgo2 : go ord giv k (before + out.length) with
            | error e => rw [hgo2] at h; cases h; exact hgo _ _ _ _ _ _ hgo2
            | ok x =>
              rw [hgo2] at h
              simp only at h
              split at h
              · cases h; decide
              · exact ldLoop_err hgo before r _ _ _ _ _ h
    · rw [loop_def hk] at h
      split at h
      · cases h; decide
      · exact ldLoop_err hgo before r _ _ _ _ _ h
/-- An error is one. -/
theorem ldT_err (F : List FileT) : ∀ (f : Nat) (opn : List Nat) (ord : List ByteArray) (giv : GivT) (k b : Nat) (p : PosT) (er : Int), ldT F f opn ord giv k b = .error (p, er) → er ≠ 0
  | 0, opn, ord, giv, k, b, p, er, h => by simp only [ldT] at h; cases h; decide
  | f + 1, opn, ord, giv, k, b, p, er, h => by
    simp only [ldT] at h
    split at h
    · cases h; assumption
    · cases hl : ldLoop (ldT F f (opn ++ [k])) F (opn ++ [k]) b (tagT k (srcT (F.getD k ⟨⟨#[]⟩, ⟨#[]⟩⟩).text.data.toList k).1) (ord ++ [(F.getD k ⟨⟨#[]⟩, ⟨#[]⟩⟩).name]) giv [] with
      | error e =>
        rw [hl] at h
        cases h
        exact ldLoop_err (ldT_err F f (opn ++ [k])) b _ _ _ _ _ _ hl
      | ok x => rw [hl] at h; cases h
end Go.Proofs.YtofhcgbihonckaaGreat

namespace Go.Proofs.YtofhcgbihonckaaGreat
open Go.RowKit Go.ChangeMaps

def natRow (l : List Nat) : List Value := l.map fun (n : Nat) => Value.int .i64 (n : Int)
def strRow (l : List ByteArray) : List Value := l.map fun s => Value.string s
/-- The loader at block lb: its files, the open ones, the names so far, what has been given (in rows that avoid the blocks A: those of the rows that still grow). -/
structure LdAt (A : Nat → Prop) (w : World) (lb mb base : Nat) (fv ov rv : Value) (F : List FileT) (opn : List Nat) (ord : List ByteArray) (giv : GivT) : Prop where
  holds : Holds w lb (ldC fv mb ov rv) 95
  files : FilesAt w fv F
  low : ∀ g, fv.ownBlock = some g → g < base
  opn : w.ownsRow base 3 1 ov opn.length (natRow opn)
  ord : w.ownsRow base 9 1 rv ord.length (strRow ord)
  giv : ∃ gvs : List (Int × Value), RowsJ w mb gvs ∧ gvs.length = giv.length ∧ ∀ i (h : i < giv.length) (h2 : i < gvs.length), gvs[i].1 = giv[i].1 ∧ FdsRow w base gvs[i].2 giv[i].2 ∧ ∀ g, gvs[i].2.ownBlock = some g → ¬ A g
  lbb : base ≤ lb
  mbb : base ≤ mb
  size : base ≤ w.heap.size
/-- What load may turn. -/
def LdS (lb mb : Nat) (ov rv : Value) (i : Nat) : Prop := i = lb ∨ i = mb ∨ ov.ownBlock = some i ∨ rv.ownBlock = some i
/-- A row is where it was, or new. -/
def Turn (w : World) (v v' : Value) : Prop := ∀ g, v'.ownBlock = some g → v.ownBlock = some g ∨ w.heap.size ≤ g
theorem Turn.refl (w : World) (v : Value) : Turn w v v := fun _ h => .inl h
theorem Turn.trans {w w' : World} {a b c : Value} (h : Turn w a b) (k : Turn w' b c) (hs : w.heap.size ≤ w'.heap.size) : Turn w a c := by
  intro g hg
  rcases k g hg with e | e
  · exact h g e
  · exact .inr (by omega)
/-- What load leaves. -/
def LdPost (A : Nat → Prop) (lb mb base : Nat) (fv ov rv : Value) (F : List FileT) (opn : List Nat) (R : Lr) (w : World) (e : Ending) (w' : World) : Prop :=
  Keeps (LdS lb mb ov rv) w w' ∧ match R with
  | .error (p, er) => e = .returned (.tuple #[.slice none 0 0, posAgg p, .int .i64 er])
  | .ok (ord', giv', out) => ∃ v ov' rv', e = .returned (.tuple #[v, posAgg (0, 0, 0), .int .i64 0]) ∧ FdsRow w' base v out ∧ LdAt A w' lb mb base fv ov' rv' F opn ord' giv' ∧ (∀ g, v.ownBlock = some g → w.heap.size ≤ g) ∧ Turn w ov ov' ∧ Turn w rv rv'
/-- The contract of load, for a fuel. -/
def LoadC (fuel : Nat) : Prop := ∀ (A : Nat → Prop) (lb mb base : Nat) (fv ov rv : Value) (F : List FileT) (opn : List Nat) (ord : List ByteArray) (giv : GivT) (file before : Nat) (w : World), LdAt A w lb mb base fv ov rv F opn ord giv → (∀ g, A g → g < w.heap.size) →
    file < F.length → F.length ≤ 8 → (∀ f ∈ F, f.text.size ≤ maxLen ∧ f.name.size ≤ maxLen) → GivOk F opn ord giv → file ∉ opn → givT giv file = none → F.length < opn.length + fuel → before ≤ 6000 → 0 < base → Lay0 w →
    Calls Tryz.prog 72 #[.pointer (some ⟨lb, 0, none⟩), .int .i64 (file : Int), .int .i64 (before : Int)] w (LdPost A lb mb base fv ov rv F opn (ldT F fuel opn ord giv file before) w)
theorem infoInt9 : (Tryz.prog.info? 3).map (fun i => (i.zero, i.size, i.bytes)) = some (some (.int .i64 0), 1, 8) := by kernel_rfl
theorem infoStr9 : (Tryz.prog.info? 9).map (fun i => (i.zero, i.size, i.bytes)) = some (some (.string ⟨#[]⟩), 1, 16) := by kernel_rfl
theorem infoDef9 : (Tryz.prog.info? 34).map (fun i => (i.zero, i.size, i.bytes)) = some (some (.agg #[.int .i64 0, .string ⟨#[]⟩, .string ⟨#[]⟩, .slice none 0 0, .int .i64 0, .int .i64 0, .int .i64 0]), 7, 88) := by kernel_rfl
section
variable {A : Nat → Prop} {w w' : World} {lb mb base : Nat} {fv ov rv : Value} {F : List FileT} {opn : List Nat} {ord : List ByteArray} {giv : GivT}
theorem LdAt.typed (h : LdAt A w lb mb base fv ov rv F opn ord giv) {i : Nat} (hi : LdS lb mb ov rv i) {cs : Array Value} {t : TypeId} (hc : Holds w i cs t) : t = 95 ∨ t = 3 ∨ t = 9 := by
  rcases hi with rfl | rfl | e | e
  · have := h.holds.symm.trans hc
    injection this with this; injection this with _ this; exact .inl this.symm
  · obtain ⟨gvs, ⟨es, clock, hb, _⟩, _⟩ := h.giv
    have := hb.symm.trans hc
    injection this with this; cases this
  · obtain ⟨_, _, cur, hb⟩ := own_lt h.opn e
    have := hb.symm.trans hc
    injection this with this; injection this with _ this; exact .inr (.inl this.symm)
  · obtain ⟨_, _, cur, hb⟩ := own_lt h.ord e
    have := hb.symm.trans hc
    injection this with this; injection this with _ this; exact .inr (.inr this.symm)
theorem LdAt.fds (h : LdAt A w lb mb base fv ov rv F opn ord giv) (k : Keeps (LdS lb mb ov rv) w w') {b2 : Nat} {v : Value} {l : List FdT} (r : FdsRow w b2 v l) : FdsRow w' b2 v l := by
  refine r.keeps k (fun g hg hS => ?_) (fun b _ hS cur => ⟨fun hc => ?_, fun hc => ?_⟩)
  · obtain ⟨_, _, hr, _⟩ := id r
    obtain ⟨_, _, cur, hb⟩ := own_lt hr hg
    rcases h.typed hS hb with e | e | e <;> exact absurd e (by decide)
  · rcases h.typed hS hc with e | e | e <;> exact absurd e (by decide)
  · rcases h.typed hS hc with e | e | e <;> exact absurd e (by decide)
theorem LdAt.pos (h : LdAt A w lb mb base fv ov rv F opn ord giv) (k : Keeps (LdS lb mb ov rv) w w') {b : Nat} {cs : Array Value} (r : Holds w b cs 27) : Holds w' b cs 27 := by
  refine r.keeps k (fun hS => ?_)
  rcases h.typed hS r with e | e | e <;> exact absurd e (by decide)
theorem LdAt.new (h : LdAt A w lb mb base fv ov rv F opn ord giv) (k : Below w.heap.size w w') : LdAt A w' lb mb base fv ov rv F opn ord giv := by
  have kf : Keeps (fun _ => False) w w' := Keeps.of_fresh k _
  obtain ⟨gvs, hg, h1, h2⟩ := h.giv
  exact ⟨h.holds.keeps kf (fun e => e), h.files.new k, h.low, ownsRow_keeps h.opn kf (fun _ _ e => e), ownsRow_keeps h.ord kf (fun _ _ e => e), ⟨gvs, hg.keeps kf (fun e => e), h1, fun i hi hi2 => ⟨(h2 i hi hi2).1, (h2 i hi hi2).2.1.new k, (h2 i hi hi2).2.2⟩⟩, h.lbb, h.mbb, Nat.le_trans h.size k.size⟩
theorem look_pair (k : Nat) : ∀ (giv : GivT) (gvs : List (Int × Value)), gvs.length = giv.length → (∀ i (h : i < giv.length) (h2 : i < gvs.length), gvs[i].1 = giv[i].1) →
    (givT giv k = none ∧ rowOfJ gvs k = (.slice none 0 0, false)) ∨ ∃ i, ∃ h : i < giv.length, ∃ h2 : i < gvs.length, givT giv k = some giv[i].2 ∧ rowOfJ gvs k = (gvs[i].2, true)
  | [], [], _, _ => .inl ⟨rfl, rfl⟩
  | p :: giv, q :: gvs, hl, he => by
    have e0 : q.1 = p.1 := he 0 (by simp) (by simp)
    by_cases hk : p.1 = (k : Int)
    · exact .inr ⟨0, by simp, by simp, by simp [givT, hk], by simp [rowOfJ, e0, hk]⟩
    · have e1 : givT (p :: giv) k = givT giv k := by simp [givT, hk]
      have e2 : rowOfJ (q :: gvs) k = rowOfJ gvs k := by simp [rowOfJ, e0, hk]
      rw [e1, e2]
      rcases look_pair k giv gvs (by simpa using hl) (fun i h h2 => he (i + 1) (by simpa using h) (by simpa using h2)) with h | ⟨i, h, h2, h3, h4⟩
      · exact .inl h
      · exact .inr ⟨i + 1, by simpa using h, by simpa using h2, h3, h4⟩
/-- What has been given is found. -/
theorem LdAt.look (h : LdAt A w lb mb base fv ov rv F opn ord giv) (hg : GivOk F opn ord giv) (k : Nat) (hk : k ≤ 1000) :
    ∃ v b, (Instr.lookup 93 (.map (some mb)) (.int .i64 k) true).run Tryz.prog w = .ok (.tuple #[v, .bool b]) w ∧ ((givT giv k = none ∧ b = false ∧ v = .slice none 0 0) ∨ ∃ l, givT giv k = some l ∧ b = true ∧ FdsRow w base v l ∧ l.length ≤ 6000 ∧ ∀ g, v.ownBlock = some g → ¬ A g) := by
  obtain ⟨gvs, hJ, h1, h2⟩ := h.giv
  have hd : (gvs.map (·.1)).Nodup := by
    obtain ⟨ks, e, hn, _⟩ := hg.keys
    have e2 : gvs.map (·.1) = giv.map (·.1) := by
      apply List.ext_getElem (by simp [h1])
      intro i a b
      simp only [List.getElem_map]
      exact (h2 i (by simpa using b) (by simpa using a)).1
    rw [e2, e]
    have hn2 : ks.Nodup := (List.nodup_append.1 hn).1
    exact List.Pairwise.map _ (fun a b hab e => hab (by omega)) hn2
  refine ⟨_, _, hJ.look hd k (by omega), ?_⟩
  rcases look_pair k giv gvs h1 (fun i a b => (h2 i a b).1) with ⟨e1, e2⟩ | ⟨i, a, b, e1, e2⟩
  · rw [e2]; exact .inl ⟨e1, rfl, rfl⟩
  · rw [e2]; exact .inr ⟨_, e1, rfl, (h2 i a b).2.1, hg.len _ (List.getElem_mem a), (h2 i a b).2.2⟩
end
/-- What holds in load's loop, with the definitions out so far. -/
structure LdW (A : Nat → Prop) (lb mb base pb qb : Nat) (fv ov rv dv : Value) (F : List FileT) (opn2 : List Nat) (file : Int) (D : List DefT) (before : Nat) (w0 : World) (outv : Value) (ord : List ByteArray) (giv : GivT) (out : List FdT) (wr : World) : Prop where
  ld : ∃ ov' rv', LdAt (fun g => A g ∨ outv.ownBlock = some g) wr lb mb base fv ov' rv' F opn2 ord giv ∧ Turn w0 ov ov' ∧ Turn w0 rv rv'
  row : FdsRow wr base outv out
  new : ∀ g, outv.ownBlock = some g → w0.heap.size ≤ g
  len : before + out.length ≤ 6000
  defs : FdsRow wr base dv (tagT file D)
  pos : Holds wr pb #[.int .i64 0, .int .i64 0, .int .i64 0] 27
  tmp : ∃ x y z, Holds wr qb #[.int .i64 x, .int .i64 y, .int .i64 z] 27
  ok : GivOk F opn2 ord giv
  keeps : Keeps (LdS lb mb ov rv) w0 wr
  low : w0.heap.size ≤ pb ∧ w0.heap.size ≤ qb ∧ pb ≠ qb
  sep : ∀ g, dv.ownBlock = some g → outv.ownBlock ≠ some g
section
variable {A : Nat → Prop} {w0 w w' : World} {lb mb base pb qb before : Nat} {fv ov rv dv outv : Value} {F : List FileT} {opn2 : List Nat} {ord : List ByteArray} {giv : GivT} {file : Int} {D : List DefT} {out : List FdT}
theorem LdW.new1 (h : LdW A lb mb base pb qb fv ov rv dv F opn2 file D before w0 outv ord giv out w) (k : Below w.heap.size w w') : LdW A lb mb base pb qb fv ov rv dv F opn2 file D before w0 outv ord giv out w' := by
  obtain ⟨ov', rv', h1, h2, h3⟩ := h.ld
  obtain ⟨x, y, z, ht⟩ := h.tmp
  exact ⟨⟨ov', rv', h1.new k, h2, h3⟩, h.row.new k, h.new, h.len, h.defs.new k, h.pos.keeps (Keeps.of_fresh k (fun _ => False)) (fun e => e), ⟨x, y, z, ht.keeps (Keeps.of_fresh k (fun _ => False)) (fun e => e)⟩, h.ok, h.keeps.trans (Keeps.of_fresh k (LdS lb mb ov rv)) (fun _ _ e => e), h.low, h.sep⟩
/-- A place beside turns. -/
theorem FdsRow.side {S : Nat → Prop} {b2 : Nat} {v : Value} {l : List FdT} (r : FdsRow w b2 v l) (k : Keeps S w w') (hS : ∀ b, S b → ∃ cs, Holds w b cs 27) : FdsRow w' b2 v l := by
  have hne : ∀ {b : Nat} {cs : Array Value} {t : TypeId}, S b → Holds w b cs t → t = 27 := by
    intro b cs t hb hc
    obtain ⟨_, h2⟩ := hS b hb
    have := h2.symm.trans hc
    injection this with this; injection this with _ this; exact this.symm
  refine r.keeps k (fun g hg hs => ?_) (fun b _ hs cur => ⟨fun hc => ?_, fun hc => ?_⟩)
  · obtain ⟨_, _, hr, _⟩ := id r
    obtain ⟨_, _, cur, hb⟩ := own_lt hr hg
    exact absurd (hne hs hb) (by decide)
  · exact absurd (hne hs hc) (by decide)
  · exact absurd (hne hs hc) (by decide)
theorem LdAt.side {S : Nat → Prop} {A : Nat → Prop} {ov rv : Value} {opn : List Nat} (h : LdAt A w lb mb base fv ov rv F opn ord giv) (k : Keeps S w w') (hS : ∀ b, S b → base ≤ b ∧ ∃ cs, Holds w b cs 27) : LdAt A w' lb mb base fv ov rv F opn ord giv := by
  have hne : ∀ {b : Nat} {cs : Array Value} {t : TypeId}, S b → Holds w b cs t → t = 27 := by
    intro b cs t hb hc
    obtain ⟨_, _, h2⟩ := hS b hb
    have := h2.symm.trans hc
    injection this with this; injection this with _ this; exact this.symm
  obtain ⟨gvs, hg, h1, h2⟩ := h.giv
  refine ⟨h.holds.keeps k (fun e => absurd (hne e h.holds) (by decide)), ?_, h.low, ownsRow_keeps h.opn k (fun g hg e => ?_), ownsRow_keeps h.ord k (fun g hg e => ?_), ⟨gvs, hg.keeps k (fun e => ?_), h1, fun i hi hi2 => ⟨(h2 i hi hi2).1, (h2 i hi hi2).2.1.side k (fun b hb => (hS b hb).2), (h2 i hi hi2).2.2⟩⟩, h.lbb, h.mbb, Nat.le_trans h.size k.size⟩
  · obtain ⟨a, cap, hv, h3, h4, h5⟩ := h.files
    refine ⟨a, cap, hv, h3, h4, fun h0 => ?_⟩
    obtain ⟨g, o, rfl, hg, hc⟩ := h5 h0
    have hn : ¬ S g := fun e => by
      have e1 := (hS g e).1
      have e2 := h.low g (by rw [hv]; rfl)
      omega
    exact ⟨g, o, rfl, Nat.lt_of_lt_of_le hg k.size, fun i hi => ⟨(k.cell (p := ⟨g, o + i * 2, none⟩) hg hn).trans (hc i hi).1, (k.cell (p := ⟨g, o + i * 2 + 1, none⟩) hg hn).trans (hc i hi).2⟩⟩
  · obtain ⟨_, _, cur, hb⟩ := own_lt h.opn hg
    exact absurd (hne e hb) (by decide)
  · obtain ⟨_, _, cur, hb⟩ := own_lt h.ord hg
    exact absurd (hne e hb) (by decide)
  · obtain ⟨es, clock, hb, _⟩ := hg
    obtain ⟨_, _, h3⟩ := hS mb e
    have := hb.symm.trans h3
    injection this with this; cases this
/-- Behind a recursive loading, and the store of its place. -/
theorem LdW.turn (h : LdW A lb mb base pb qb fv ov rv dv F opn2 file D before w0 outv ord giv out w) (hbs : base ≤ w0.heap.size) {ov' rv' ov2 rv2 : Value} {ord2 : List ByteArray} {giv2 : GivT} (hT1 : Turn w0 ov ov') (hT2 : Turn w0 rv rv') (hL : LdAt (fun g => A g ∨ outv.ownBlock = some g) w lb mb base fv ov' rv' F opn2 ord giv)
    (k : Keeps (LdS lb mb ov' rv') w w') (hL2 : LdAt (fun g => A g ∨ outv.ownBlock = some g) w' lb mb base fv ov2 rv2 F opn2 ord2 giv2) (hok : GivOk F opn2 ord2 giv2) (hT3 : Turn w ov' ov2) (hT4 : Turn w rv' rv2) (x y z : Int) :
    LdW A lb mb base pb qb fv ov rv dv F opn2 file D before w0 outv ord2 giv2 out (((w'.setCell ⟨qb, 0, none⟩ (.int .i64 x)).setCell ⟨qb, 1, none⟩ (.int .i64 y)).setCell ⟨qb, 2, none⟩ (.int .i64 z)) := by
  obtain ⟨x0, y0, z0, ht⟩ := h.tmp
  have ht' := hL.pos k ht
  have hp' := hL.pos k h.pos
  have hs := k.size
  have hs0 := h.keeps.size
  have kq : Keeps (· = qb) w' (((w'.setCell ⟨qb, 0, none⟩ (.int .i64 x)).setCell ⟨qb, 1, none⟩ (.int .i64 y)).setCell ⟨qb, 2, none⟩ (.int .i64 z)) :=
    (((Keeps.refl (· = qb) w').setCell (p := ⟨qb, 0, none⟩) (.inr rfl) _).setCell (p := ⟨qb, 1, none⟩) (.inr rfl) _).setCell (p := ⟨qb, 2, none⟩) (.inr rfl) _
  have hS : ∀ b, b = qb → base ≤ b ∧ ∃ cs, Holds w' b cs 27 := by
    rintro b rfl
    exact ⟨by have := h.low.2.1; omega, _, ht'⟩
  refine ⟨⟨ov2, rv2, hL2.side kq hS, hT1.trans hT3 hs0, hT2.trans hT4 hs0⟩, (hL.fds k h.row).side kq (fun b e => (hS b e).2), h.new, h.len, (hL.fds k h.defs).side kq (fun b e => (hS b e).2), hp'.keeps kq (fun e => h.low.2.2 e), ⟨x, y, z, ((ht'.set 0 _).set 1 _).set 2 _⟩, hok, ?_, h.low, h.sep⟩
  refine (h.keeps.trans k ?_).trans kq ?_
  · rintro i hi (e | e | e | e)
    · exact .inl e
    · exact .inr (.inl e)
    · rcases hT1 i e with e2 | e2
      · exact .inr (.inr (.inl e2))
      · omega
    · rcases hT2 i e with e2 | e2
      · exact .inr (.inr (.inr e2))
      · omega
  · rintro i hi rfl
    have := h.low.2.1
    omega
end
end Go.Proofs.YtofhcgbihonckaaGreat

namespace Go.Proofs.YtofhcgbihonckaaGreat
open Go.RowKit Go.ChangeMaps

theorem row_made {w : World} {B base : Nat} {e : TypeId} {size n : Nat} {cs : Array Value} (hB : w.heap.size = B) (hb : base ≤ B) (hs : cs.size = n * size) (hn : n ≤ 1000) : (w.alloc (.cells cs e)).ownsRow base e size (.slice (some ⟨B, 0, none⟩) n n) n cs.toList := by
  subst hB
  refine ⟨by simpa using hs, .inr ⟨w.heap.size, n, cs, rfl, hb, heap_alloc_new w _, Nat.le_refl _, by unfold maxLen; omega, hs, ?_⟩⟩
  rw [List.take_of_length_le (by simp [hs])]
theorem PartsRow.keep2 {w w' : World} {base : Nat} {v : Value} {ps : List PartT} {S : Nat → Prop} (h : PartsRow w base v ps) (k : Keeps S w w') (ha : ∀ b, b < w.heap.size → S b → ∀ cur, ¬ Holds w b cur 72 ∧ ¬ Holds w b cur 75) : PartsRow w' base v ps := by
  obtain ⟨us, u1, u2, u3⟩ := h
  have key : ∀ {e : TypeId} {size n : Nat} {u : Value} {xs : List Value}, w.ownsRow base e size u n xs → (e = 72 ∨ e = 75) → ∀ g, u.ownBlock = some g → ¬ S g := by
    intro e size n u xs hr he g hg hS
    obtain ⟨b1, _, cur, b2⟩ := own_lt hr hg
    rcases he with rfl | rfl
    · exact (ha g b1 hS cur).1 b2
    · exact (ha g b1 hS cur).2 b2
  exact ⟨us, u1, ownsRow_keeps u2 k (key u2 (.inr rfl)), fun i hi hi2 => ownsRow_keeps (u3 i hi hi2) k (key (u3 i hi hi2) (.inl rfl))⟩
theorem fdCells_one : ∀ (l : List FdT) (vs : List Value), (∀ u ∈ vs, u.oneCell' = true) → ∀ u ∈ fdCells l vs, u.oneCell' = true
  | [], _, _, u, hu => by cases hu
  | x :: xs, [], _, u, hu => by cases hu
  | x :: xs, v :: vs, h, u, hu => by
    simp only [fdCells, List.mem_cons] at hu
    rcases hu with rfl | rfl | rfl | rfl | rfl | rfl | rfl | hu
    · rfl
    · rfl
    · rfl
    · exact h _ List.mem_cons_self
    · rfl
    · rfl
    · rfl
    · exact fdCells_one xs vs (fun u hu => h u (List.mem_cons_of_mem _ hu)) u hu
/-- A row of definitions, as an append takes it. -/
theorem FdsRow.src {w : World} {base : Nat} {v : Value} {l : List FdT} (h : FdsRow w base v l) : ∃ us : List Value, us.length = l.length ∧ Src Tryz.prog 7 25 v l.length (fdCells l us) w ∧ ∀ k (h : k < l.length) (h2 : k < us.length), PartsRow w base us[k] l[k].2.parts := by
  obtain ⟨us, h1, h2, h3⟩ := h
  have hone : ∀ u ∈ us, u.oneCell' = true := by
    intro u hu
    obtain ⟨k, hk, rfl⟩ := List.getElem_of_mem hu
    obtain ⟨a, c, e⟩ := (h3 k (by omega) hk).slice
    rw [e]; rfl
  refine ⟨us, h1, ?_, h3⟩
  have hc := fdCells_one l us hone
  have hl := fdCells_len l us h1
  rcases id h2.2 with ⟨rfl, h0⟩ | ⟨g, cap, cur, rfl, _⟩
  · have : l = [] := List.eq_nil_of_length_eq_zero h0
    subst this
    have : us = [] := List.eq_nil_of_length_eq_zero h1
    subst this
    exact Src.ofNil w Tryz.underlying25 0
  · exact Src.ofSlice w Tryz.underlying25 _ _ _ _ hl (h2.cells (g := g) rfl) hc
section
variable {A : Nat → Prop} {w0 w : World} {lb mb base pb qb before : Nat} {fv ov rv dv outv : Value} {F : List FileT} {opn2 : List Nat} {ord : List ByteArray} {giv : GivT} {file : Int} {D : List DefT} {out : List FdT}
theorem LdW.typed (h : LdW A lb mb base pb qb fv ov rv dv F opn2 file D before w0 outv ord giv out w) {g : Nat} (hg : outv.ownBlock = some g) {cs : Array Value} {t : TypeId} (hc : Holds w g cs t) : t = 34 := by
  obtain ⟨_, _, hr, _⟩ := h.row
  obtain ⟨_, _, cur, hb⟩ := own_lt hr hg
  have := hb.symm.trans hc
  injection this with this; injection this with _ this; exact this.symm
/-- More definitions behind those so far. -/
theorem LdW.app (h : LdW A lb mb base pb qb fv ov rv dv F opn2 file D before w0 outv ord giv out w) (hbs : base ≤ w0.heap.size) {mv : Value} {m : List FdT} (hm : FdsRow w base mv m) (hl : m.length ≤ roomT before out) :
    ∃ vs us, w.ownsRow base 34 7 outv out.length (fdCells out vs) ∧ Src Tryz.prog 7 25 mv m.length (fdCells m us) w ∧ ∀ v' w', w'.ownsRow base 34 7 v' (out.length + m.length) (fdCells out vs ++ fdCells m us) → w.grownBy w' outv.ownBlock → (v'.ownBlock = outv.ownBlock ∨ v'.ownBlock = some w.heap.size) →
      LdW A lb mb base pb qb fv ov rv dv F opn2 file D before w0 v' ord giv (out ++ m) w' := by
  obtain ⟨vs, h1, h2, h3⟩ := id h.row
  obtain ⟨us, k1, k2, k3⟩ := hm.src
  refine ⟨vs, us, h2, k2, fun v' w' hown hgrow hat => ?_⟩
  have kk : Keeps (fun i => outv.ownBlock = some i) w w' := Keeps.of_grown hgrow (fun _ e => e)
  have ha : ∀ b, b < w.heap.size → outv.ownBlock = some b → ∀ cur, ¬ Holds w b cur 72 ∧ ¬ Holds w b cur 75 := fun b _ hb cur =>
    ⟨fun hc => absurd (h.typed hb hc) (by decide), fun hc => absurd (h.typed hb hc) (by decide)⟩
  obtain ⟨ov', rv', hL, hT1, hT2⟩ := h.ld
  have hnew : ∀ g, v'.ownBlock = some g → outv.ownBlock = some g ∨ w.heap.size ≤ g := by
    intro g hg
    rcases hat with e | e
    · exact .inl (e ▸ hg)
    · rw [e] at hg; cases hg; exact .inr (Nat.le_refl _)
  have hs0 := h.keeps.size
  obtain ⟨gvs, hJ, g1, g2⟩ := hL.giv
  obtain ⟨x, y, z, ht⟩ := h.tmp
  have hrow : FdsRow w' base v' (out ++ m) := FdsRow.app h1 k1 hown (fun k a b => (h3 k a b).keep2 kk ha) (fun k a b => (k3 k a b).keep2 kk ha)
  have hLd : LdAt (fun g => A g ∨ v'.ownBlock = some g) w' lb mb base fv ov' rv' F opn2 ord giv := by
    refine ⟨hL.holds.keeps kk (fun e => absurd (h.typed e hL.holds) (by decide)), ?_, hL.low, ownsRow_keeps hL.opn kk (fun g hg e => ?_), ownsRow_keeps hL.ord kk (fun g hg e => ?_), ⟨gvs, hJ.keeps kk (fun e => ?_), g1, fun i a b => ⟨(g2 i a b).1, (g2 i a b).2.1.keeps kk (fun g hg e => (g2 i a b).2.2 g hg (.inr e)) ha, fun g hg e => ?_⟩⟩, hL.lbb, hL.mbb, Nat.le_trans hL.size kk.size⟩
    · obtain ⟨a, cap, hv, h3, h4, h5⟩ := hL.files
      refine ⟨a, cap, hv, h3, h4, fun h0 => ?_⟩
      obtain ⟨g, o, rfl, hg, hc⟩ := h5 h0
      have hn : ¬ (outv.ownBlock = some g) := fun e => by
        have e1 := h.new g e
        have e2 := hL.low g (by rw [hv]; rfl)
        omega
      exact ⟨g, o, rfl, Nat.lt_of_lt_of_le hg kk.size, fun i hi => ⟨(kk.cell (p := ⟨g, o + i * 2, none⟩) hg hn).trans (hc i hi).1, (kk.cell (p := ⟨g, o + i * 2 + 1, none⟩) hg hn).trans (hc i hi).2⟩⟩
    · obtain ⟨_, _, cur, hb⟩ := own_lt hL.opn hg
      exact absurd (h.typed e hb) (by decide)
    · obtain ⟨_, _, cur, hb⟩ := own_lt hL.ord hg
      exact absurd (h.typed e hb) (by decide)
    · obtain ⟨es, clock, hb, _⟩ := hJ
      obtain ⟨_, _, cur, h3⟩ := own_lt h2 e
      have := hb.symm.trans h3
      injection this with this; cases this
    · rcases e with e | e
      · exact (g2 i a b).2.2 g hg (.inl e)
      · rcases hnew g e with e2 | e2
        · exact (g2 i a b).2.2 g hg (.inr e2)
        · obtain ⟨_, _, hr, _⟩ := (g2 i a b).2.1
          have := (own_lt hr hg).1
          omega
  refine ⟨⟨ov', rv', hLd, hT1, hT2⟩, hrow, fun g hg => ?_, by rw [List.length_append]; have := h.len; unfold roomT at hl; omega, h.defs.keeps kk (fun g hg e => h.sep g hg e) ha, h.pos.keeps kk (fun e => absurd (h.typed e h.pos) (by decide)), ⟨x, y, z, ht.keeps kk (fun e => absurd (h.typed e ht) (by decide))⟩, h.ok, h.keeps.trans kk (fun i hi e => ?_), h.low, fun g hg e => ?_⟩
  · rcases hnew g hg with e | e
    · exact h.new g e
    · omega
  · have := h.new i e; omega
  · rcases hnew g e with e2 | e2
    · exact h.sep g hg e2
    · obtain ⟨_, _, hr, _⟩ := h.defs
      have := (own_lt hr hg).1
      omega
end
/-- The loader as it begins its loop. -/
theorem LdAt.begin {A : Nat → Prop} {w w5 : World} {lb mb base : Nat} {fv ov rv ov5 rv5 : Value} {F : List FileT} {opn opn2 : List Nat} {ord ord2 : List ByteArray} {giv : GivT} (h : LdAt A w lb mb base fv ov rv F opn ord giv) (k : Keeps (fun i => i = lb ∨ ov.ownBlock = some i ∨ rv.ownBlock = some i) w w5)
    (hH : Holds w5 lb (ldC fv mb ov5 rv5) 95) (hO : w5.ownsRow base 3 1 ov5 opn2.length (natRow opn2)) (hR : w5.ownsRow base 9 1 rv5 ord2.length (strRow ord2)) :
    LdAt (fun g => A g ∨ Value.ownBlock (.slice none 0 0) = some g) w5 lb mb base fv ov5 rv5 F opn2 ord2 giv := by
  have kS : Keeps (LdS lb mb ov rv) w w5 := k.mono (fun i _ e => by
    rcases e with e | e | e
    · exact .inl e
    · exact .inr (.inr (.inl e))
    · exact .inr (.inr (.inr e)))
  obtain ⟨gvs, hJ, g1, g2⟩ := h.giv
  refine ⟨hH, ?_, h.low, hO, hR, ⟨gvs, hJ.keeps k (fun e => ?_), g1, fun i a b => ⟨(g2 i a b).1, h.fds kS (g2 i a b).2.1, fun g hg e => ?_⟩⟩, h.lbb, h.mbb, Nat.le_trans h.size k.size⟩
  · obtain ⟨a, cap, hv, h3, h4, h5⟩ := h.files
    refine ⟨a, cap, hv, h3, h4, fun h0 => ?_⟩
    obtain ⟨g, o, rfl, hg, hc⟩ := h5 h0
    have hn : ¬ (g = lb ∨ ov.ownBlock = some g ∨ rv.ownBlock = some g) := by
      have e2 := h.low g (by rw [hv]; rfl)
      rintro (e | e | e)
      · have := h.lbb; omega
      · have := (own_lt h.opn e).2.1; omega
      · have := (own_lt h.ord e).2.1; omega
    exact ⟨g, o, rfl, Nat.lt_of_lt_of_le hg k.size, fun i hi => ⟨(k.cell (p := ⟨g, o + i * 2, none⟩) hg hn).trans (hc i hi).1, (k.cell (p := ⟨g, o + i * 2 + 1, none⟩) hg hn).trans (hc i hi).2⟩⟩
  · obtain ⟨es, clock, hb, _⟩ := hJ
    rcases e with rfl | e | e
    · have := hb.symm.trans h.holds
      injection this with this; cases this
    · obtain ⟨_, _, cur, h3⟩ := own_lt h.opn e
      have := hb.symm.trans h3
      injection this with this; cases this
    · obtain ⟨_, _, cur, h3⟩ := own_lt h.ord e
      have := hb.symm.trans h3
      injection this with this; cases this
  · rcases e with e | e
    · exact (g2 i a b).2.2 g hg e
    · cases e
section
variable {A : Nat → Prop} {w0 w : World} {lb mb base pb qb before file : Nat} {fv ov rv dv outv : Value} {F : List FileT} {opn : List Nat} {ord : List ByteArray} {giv : GivT} {D : List DefT} {out : List FdT}
/-- Where load ends: the file is open no more, and has been given. -/
theorem LdW.fin (h : LdW A lb mb base pb qb fv ov rv dv F (opn ++ [file]) (file : Int) D before w0 outv ord giv out w) (hA : ∀ g, A g → g < w0.heap.size) (hF : F.length ≤ 8) (hbs : base ≤ w0.heap.size) :
    ∃ g oc rv', Holds w lb (ldC fv mb (.slice (some ⟨g, 0, none⟩) (opn.length + 1) oc) rv') 95 ∧ opn.length + 1 ≤ oc ∧ oc ≤ maxLen ∧ opn.length + 1 ≤ 8 ∧ ∀ w6, Keeps (· = lb) w w6 → Holds w6 lb (ldC fv mb (.slice (some ⟨g, 0, none⟩) opn.length oc) rv') 95 →
      ∃ o, (Instr.mapUpdate 93 (.map (some mb)) (.int .i64 (file : Int)) outv).run Tryz.prog w6 = .ok () (setBlock w6 mb o) ∧ LdAt A (setBlock w6 mb o) lb mb base fv (.slice (some ⟨g, 0, none⟩) opn.length oc) rv' F opn ord (giv ++ [((file : Int), out)]) ∧
        FdsRow (setBlock w6 mb o) base outv out ∧ Holds (setBlock w6 mb o) pb #[.int .i64 0, .int .i64 0, .int .i64 0] 27 ∧ Keeps (LdS lb mb ov rv) w0 (setBlock w6 mb o) ∧ Turn w0 ov (.slice (some ⟨g, 0, none⟩) opn.length oc) ∧ Turn w0 rv rv' := by
  obtain ⟨ov', rv', hL, hT1, hT2⟩ := h.ld
  have hlen : (opn ++ [file]).length = opn.length + 1 := by simp
  have hok := h.ok
  have hsh := hok.short
  obtain ⟨g, oc, cur, rfl, hgb, hgg, hgc, hgm, hgs, hgt⟩ : ∃ g cap cur, ov' = .slice (some ⟨g, 0, none⟩) (opn.length + 1) cap ∧ base ≤ g ∧ w.heap[g]? = some (.cells cur 3 (0, 0)) ∧ opn.length + 1 ≤ cap ∧ cap ≤ maxLen ∧ cur.size = cap * 1 ∧ cur.toList.take ((opn.length + 1) * 1) = natRow (opn ++ [file]) := by
    have h2 := hL.opn.2
    rw [hlen] at h2
    rcases h2 with ⟨_, e⟩ | ⟨g, cap, cur, e1, e2, e3, e4, e5, e6, e7⟩
    · omega
    · exact ⟨g, cap, cur, e1, e2, e3, e4, e5, e6, e7⟩
  refine ⟨g, oc, rv', hL.holds, hgc, hgm, by omega, fun w6 k6 hH6 => ?_⟩
  obtain ⟨gvs, hJ, g1, g2⟩ := hL.giv
  obtain ⟨ks, ek, hnd, hkl⟩ := hok.keys
  have hlbm : lb ≠ mb := by
    rintro rfl
    obtain ⟨es, clock, hb, _⟩ := hJ
    have := hb.symm.trans hL.holds
    injection this with this; cases this
  have hJ6 : RowsJ w6 mb gvs := hJ.keeps k6 (fun e => hlbm e.symm)
  have hfl : file < F.length := hkl file (by simp)
  have hnk : ∀ p ∈ gvs, p.1 ≠ (file : Int) := by
    intro p hp e
    obtain ⟨i, hi, e2⟩ := List.getElem_of_mem hp
    have e3 := (g2 i (by omega) hi).1
    rw [e2, e] at e3
    have hm : (file : Int) ∈ giv.map (·.1) := by rw [e3]; exact List.mem_map.2 ⟨_, List.getElem_mem _, rfl⟩
    rw [ek, List.mem_map] at hm
    obtain ⟨k, hk, ek2⟩ := hm
    obtain rfl : k = file := by omega
    exact (List.nodup_append.1 hnd).2.2 k hk k (by simp) rfl
  obtain ⟨o, ho, hJ7⟩ := hJ6.put (file : Int) outv (by omega) hnk
  refine ⟨o, ho, ?_⟩
  have k7 : Keeps (· = mb) w6 (setBlock w6 mb o) := (Keeps.refl (· = mb) w6).putJ o (.inr rfl)
  have k67 : Keeps (fun i => i = lb ∨ i = mb) w (setBlock w6 mb o) := (k6.mono (fun _ _ e => .inl e)).trans k7 (fun _ _ e => .inr e)
  have kS : Keeps (LdS lb mb (.slice (some ⟨g, 0, none⟩) (opn.length + 1) oc) rv') w (setBlock w6 mb o) := k67.mono (fun i _ e => by
    rcases e with e | e
    · exact .inl e
    · exact .inr (.inl e))
  have hgT : Turn w0 ov (.slice (some ⟨g, 0, none⟩) opn.length oc) := fun x hx => hT1 x hx
  have hnot : ∀ {x : Nat} {cs : Array Value} {t : TypeId}, Holds w x cs t → t ≠ 95 → ¬ (x = lb ∨ x = mb) := by
    rintro x cs t hc hne (rfl | rfl)
    · have := hc.symm.trans hL.holds
      injection this with this; injection this with _ this; exact hne this
    · obtain ⟨es, clock, hb, _⟩ := hJ
      have := hb.symm.trans hc
      injection this with this; cases this
  have hrow := hL.fds kS h.row
  have hown : w.ownsRow base 3 1 (.slice (some ⟨g, 0, none⟩) opn.length oc) opn.length (natRow opn) := by
    refine ⟨by simp [natRow], .inr ⟨g, oc, cur, rfl, hgb, hgg, by omega, hgm, hgs, ?_⟩⟩
    have e1 : natRow opn = (natRow (opn ++ [file])).take (opn.length * 1) := by simp [natRow]
    rw [e1, ← hgt, List.take_take, Nat.min_eq_left (by omega)]
  refine ⟨⟨hH6.keeps k7 hlbm, ?_, hL.low, ownsRow_keeps hown k67 (fun x hx => ?_), ownsRow_keeps hL.ord k67 (fun x hx => ?_), ⟨gvs ++ [((file : Int), outv)], hJ7, by simp [g1], fun i a b => ?_⟩, hL.lbb, hL.mbb, Nat.le_trans hL.size k67.size⟩, hrow, hL.pos kS h.pos, ?_, hgT, hT2⟩
  · obtain ⟨a, cap, hv, h3, h4, h5⟩ := hL.files
    refine ⟨a, cap, hv, h3, h4, fun h0 => ?_⟩
    obtain ⟨q, o, rfl, hq, hc⟩ := h5 h0
    have hn : ¬ (q = lb ∨ q = mb) := by
      have e2 := hL.low q (by rw [hv]; rfl)
      have := hL.lbb
      have := hL.mbb
      omega
    exact ⟨q, o, rfl, Nat.lt_of_lt_of_le hq k67.size, fun i hi => ⟨(k67.cell (p := ⟨q, o + i * 2, none⟩) hq hn).trans (hc i hi).1, (k67.cell (p := ⟨q, o + i * 2 + 1, none⟩) hq hn).trans (hc i hi).2⟩⟩
  · obtain ⟨_, _, c2, hb⟩ := own_lt hown hx
    exact hnot hb (by decide)
  · obtain ⟨_, _, c2, hb⟩ := own_lt hL.ord hx
    exact hnot hb (by decide)
  · by_cases hi : i < giv.length
    · rw [List.getElem_append_left (by omega), List.getElem_append_left hi]
      exact ⟨(g2 i hi (by omega)).1, hL.fds kS (g2 i hi (by omega)).2.1, fun x hx e => (g2 i hi (by omega)).2.2 x hx (.inl e)⟩
    · have e1 : i = giv.length := by simp at a; omega
      subst e1
      rw [List.getElem_append_right (by omega), List.getElem_append_right (by omega)]
      simp only [g1, Nat.sub_self, List.getElem_cons_zero]
      exact ⟨trivial, hrow, fun x hx e => by have e1 := h.new x hx; have e2 := hA x e; omega⟩
  · refine h.keeps.trans k67 (fun i _ e => ?_)
    rcases e with e | e
    · exact .inl e
    · exact .inr (.inl e)
end
end Go.Proofs.YtofhcgbihonckaaGreat

namespace Go.Proofs.YtofhcgbihonckaaGreat
open Go.RowKit

theorem infoCell9 : (Tryz.prog.info? 72).map (fun i => (i.zero, i.size, i.bytes)) = some (some (.agg #[.int .i64 0, .string ⟨#[]⟩]), 2, 24) := by kernel_rfl
/-- A row, as an append takes it. -/
theorem row_src {P : Program} {w : World} {base : Nat} {e e' tx : TypeId} {size n : Nat} {v : Value} {xs : List Value} (hk : P.underlying tx = some (.slice e')) (h : w.ownsRow base e size v n xs) (hone : ∀ u ∈ xs, u.oneCell' = true) : Src P size tx v n xs w := by
  rcases id h.2 with ⟨rfl, h0⟩ | ⟨g, cap, cur, rfl, _⟩
  · subst h0
    have : xs = [] := List.eq_nil_of_length_eq_zero (by simpa using h.1)
    subst this
    exact Src.ofNil w hk 0
  · exact Src.ofSlice w hk _ _ _ _ h.1 (h.cells (g := g) rfl) hone
theorem row_none {w : World} {base : Nat} {e : TypeId} {size n cap : Nat} {xs : List Value} (h : w.ownsRow base e size (.slice none n cap) n xs) : n = 0 ∧ cap = 0 ∧ xs = [] := by
  rcases h.2 with ⟨e1, h0⟩ | ⟨g, c, cur, e1, _⟩
  · cases e1
    exact ⟨rfl, rfl, List.eq_nil_of_length_eq_zero (by simpa using h.1)⟩
  · cases e1
theorem row_zero {w : World} {base B : Nat} {e : TypeId} {size : Nat} (hB : w.heap.size = B) (hb : base ≤ B) : (w.alloc (.cells #[] e)).ownsRow base e size (.slice (some ⟨B, 0, none⟩) 0 0) 0 [] := by
  have := row_made (w := w) (B := B) (base := base) (e := e) (size := size) (n := 0) (cs := #[]) hB hb (by simp) (by omega)
  simpa using this
set_option maxHeartbeats 2000000 in
theorem defs_Clone (base : Nat) (v : Value) (n : Nat) (xs : List Value) (w : World) (h : w.ownsRow base 34 7 v n xs) (hone : ∀ u ∈ xs, u.oneCell' = true) (hl : n ≤ 10000) :
    Calls Tryz.prog 73 #[v] w fun e w' => ∃ v', e = .returned v' ∧ w'.ownsRow w.heap.size 34 7 v' n xs ∧ Below w.heap.size w w' := by
  obtain ⟨i0, hi, hz0, hz1, hz2⟩ := info_parts infoDef9
  have q40 : ∀ (w : World) (a : Option Addr) (n c : Nat), (binOp .eql 25 (.slice a n c) (.slice none 0 0)).run Tryz.prog w = .ok (.bool a.isNone) w := fun w a n c => Lib.run_eql_slice_nil w _ _ a n c 0 0 Tryz.underlying25
  obtain ⟨a, cap, rfl⟩ := row_slice h
  cases a with
  | none =>
    obtain ⟨rfl, rfl, rfl⟩ := row_none h
    clear h hone
    go_enter Tryz.func73, Tryz.ntmps73
    go_wp2_with fail
    go_ret
    exact ⟨_, rfl, World.ownsRow_nil _ _ _ _, Below.refl _ _⟩
  | some ad =>
    have hb0 : Below w.heap.size w (w.alloc (.cells #[] 34)) := (Below.refl _ _).alloc (Nat.le_refl _) _
    have HS := Lib.hid (row_src (P := Tryz.prog) Tryz.underlying25 (ownsRow_keeps h (Keeps.of_fresh hb0 (fun _ => False)) (fun _ _ e => e)) hone)
    have HR := Lib.hid (row_zero (w := w) (B := w.heap.size) (base := w.heap.size) (e := 34) (size := 7) rfl (Nat.le_refl _))
    clear h hone
    go_enter Tryz.func73, Tryz.ntmps73
    go_wp2_with (at_builtin; refine wpList_append_src _ rfl _ _ 25 25 rfl w.heap.size 34 i0 (.agg #[.int .i64 0, .string ⟨#[]⟩, .string ⟨#[]⟩, .slice none 0 0, .int .i64 0, .int .i64 0, .int .i64 0]) 7 88 Tryz.underlying25 hi hz0 hz1 hz2 rfl (.slice (some ⟨w.heap.size, 0, none⟩) 0 0) 0 [] rfl (by exact HR.out) _ rfl n xs (by exact HS.out) ?c1 ?c2 ?c3 ?_)
    case c1 => unfold maxLen; omega
    case c2 => omega
    case c3 => simp
    intro v' w5 hown hgrow _
    have hb5 := Lib.hid (hb0.grown hgrow (by simp) (fun q hq => by have : w.heap.size = q := Option.some.inj hq; omega))
    have HO := Lib.hid hown
    clear hown hgrow hb0
    go_wp2_with fail
    go_ret
    exact ⟨_, rfl, by simpa using HO.out, hb5.out⟩
set_option maxHeartbeats 2000000 in
theorem parts_Clone (base : Nat) (v : Value) (n : Nat) (xs : List Value) (w : World) (h : w.ownsRow base 75 3 v n xs) (hone : ∀ u ∈ xs, u.oneCell' = true) (hl : n ≤ 10000) :
    Calls Tryz.prog 74 #[v] w fun e w' => ∃ v', e = .returned v' ∧ w'.ownsRow w.heap.size 75 3 v' n xs ∧ Below w.heap.size w w' := by
  obtain ⟨i0, hi, hz0, hz1, hz2⟩ := info_parts infoPart
  have q40 : ∀ (w : World) (a : Option Addr) (n c : Nat), (binOp .eql 32 (.slice a n c) (.slice none 0 0)).run Tryz.prog w = .ok (.bool a.isNone) w := fun w a n c => Lib.run_eql_slice_nil w _ _ a n c 0 0 Tryz.underlying32
  obtain ⟨a, cap, rfl⟩ := row_slice h
  cases a with
  | none =>
    obtain ⟨rfl, rfl, rfl⟩ := row_none h
    clear h hone
    go_enter Tryz.func74, Tryz.ntmps74
    go_wp2_with fail
    go_ret
    exact ⟨_, rfl, World.ownsRow_nil _ _ _ _, Below.refl _ _⟩
  | some ad =>
    have hb0 : Below w.heap.size w (w.alloc (.cells #[] 75)) := (Below.refl _ _).alloc (Nat.le_refl _) _
    have HS := Lib.hid (row_src (P := Tryz.prog) Tryz.underlying32 (ownsRow_keeps h (Keeps.of_fresh hb0 (fun _ => False)) (fun _ _ e => e)) hone)
    have HR := Lib.hid (row_zero (w := w) (B := w.heap.size) (base := w.heap.size) (e := 75) (size := 3) rfl (Nat.le_refl _))
    clear h hone
    go_enter Tryz.func74, Tryz.ntmps74
    go_wp2_with (at_builtin; refine wpList_append_src _ rfl _ _ 32 32 rfl w.heap.size 75 i0 (.agg #[.int .i64 0, .slice none 0 0, .string ⟨#[]⟩]) 3 48 Tryz.underlying32 hi hz0 hz1 hz2 rfl (.slice (some ⟨w.heap.size, 0, none⟩) 0 0) 0 [] rfl (by exact HR.out) _ rfl n xs (by exact HS.out) ?c1 ?c2 ?c3 ?_)
    case c1 => unfold maxLen; omega
    case c2 => omega
    case c3 => simp
    intro v' w5 hown hgrow _
    have hb5 := Lib.hid (hb0.grown hgrow (by simp) (fun q hq => by have : w.heap.size = q := Option.some.inj hq; omega))
    have HO := Lib.hid hown
    clear hown hgrow hb0
    go_wp2_with fail
    go_ret
    exact ⟨_, rfl, by simpa using HO.out, hb5.out⟩
set_option maxHeartbeats 2000000 in
theorem cells_Clone (base : Nat) (v : Value) (n : Nat) (xs : List Value) (w : World) (h : w.ownsRow base 72 2 v n xs) (hone : ∀ u ∈ xs, u.oneCell' = true) (hl : n ≤ 10000) :
    Calls Tryz.prog 75 #[v] w fun e w' => ∃ v', e = .returned v' ∧ w'.ownsRow w.heap.size 72 2 v' n xs ∧ Below w.heap.size w w' := by
  obtain ⟨i0, hi, hz0, hz1, hz2⟩ := info_parts infoCell9
  have q40 : ∀ (w : World) (a : Option Addr) (n c : Nat), (binOp .eql 73 (.slice a n c) (.slice none 0 0)).run Tryz.prog w = .ok (.bool a.isNone) w := fun w a n c => Lib.run_eql_slice_nil w _ _ a n c 0 0 Tryz.underlying73
  obtain ⟨a, cap, rfl⟩ := row_slice h
  cases a with
  | none =>
    obtain ⟨rfl, rfl, rfl⟩ := row_none h
    clear h hone
    go_enter Tryz.func75, Tryz.ntmps75
    go_wp2_with fail
    go_ret
    exact ⟨_, rfl, World.ownsRow_nil _ _ _ _, Below.refl _ _⟩
  | some ad =>
    have hb0 : Below w.heap.size w (w.alloc (.cells #[] 72)) := (Below.refl _ _).alloc (Nat.le_refl _) _
    have HS := Lib.hid (row_src (P := Tryz.prog) Tryz.underlying73 (ownsRow_keeps h (Keeps.of_fresh hb0 (fun _ => False)) (fun _ _ e => e)) hone)
    have HR := Lib.hid (row_zero (w := w) (B := w.heap.size) (base := w.heap.size) (e := 72) (size := 2) rfl (Nat.le_refl _))
    clear h hone
    go_enter Tryz.func75, Tryz.ntmps75
    go_wp2_with (at_builtin; refine wpList_append_src _ rfl _ _ 73 73 rfl w.heap.size 72 i0 (.agg #[.int .i64 0, .string ⟨#[]⟩]) 2 24 Tryz.underlying73 hi hz0 hz1 hz2 rfl (.slice (some ⟨w.heap.size, 0, none⟩) 0 0) 0 [] rfl (by exact HR.out) _ rfl n xs (by exact HS.out) ?c1 ?c2 ?c3 ?_)
    case c1 => unfold maxLen; omega
    case c2 => omega
    case c3 => simp
    intro v' w5 hown hgrow _
    have hb5 := Lib.hid (hb0.grown hgrow (by simp) (fun q hq => by have : w.heap.size = q := Option.some.inj hq; omega))
    have HO := Lib.hid hown
    clear hown hgrow hb0
    go_wp2_with fail
    go_ret
    exact ⟨_, rfl, by simpa using HO.out, hb5.out⟩
end Go.Proofs.YtofhcgbihonckaaGreat

namespace Go.Proofs.YtofhcgbihonckaaGreat
open Go.RowKit

theorem rdA_file (f g : Int) : ∀ (n : Nat) (l : List UInt8) (p : Int × Int) (acc : List Tok),
    (rdA g n l p acc).1 = (rdA f n l p acc).1 ∧ (rdA g n l p acc).2.2 = (rdA f n l p acc).2.2 ∧ ((rdA f n l p acc).2.2 ≠ 0 → ∃ a b, (rdA f n l p acc).2.1 = (f, a, b) ∧ (rdA g n l p acc).2.1 = (g, a, b)) ∧ ((rdA f n l p acc).2.2 = 0 → (rdA f n l p acc).2.1 = (0, 0, 0) ∧ (rdA g n l p acc).2.1 = (0, 0, 0))
  | 0, l, p, acc => ⟨rfl, rfl, fun _ => ⟨_, _, rfl, rfl⟩, fun h => by cases h⟩
  | n + 1, l, p, acc => by
    simp only [rdA]
    split
    · exact ⟨rfl, rfl, fun _ => ⟨_, _, rfl, rfl⟩, fun h => by cases h⟩
    · split
      · exact ⟨rfl, rfl, fun _ => ⟨_, _, rfl, rfl⟩, fun h => by cases h⟩
      · split
        · exact ⟨rfl, rfl, fun h => absurd rfl h, fun _ => ⟨rfl, rfl⟩⟩
        · split
          · rename_i h
            exact ⟨rfl, rfl, fun _ => ⟨_, _, rfl, rfl⟩, fun e => absurd e h⟩
          · exact rdA_file f g n _ _ _
theorem readT_file (l : List UInt8) (f g : Int) : (readT l g).1 = (readT l f).1 ∧ (readT l g).2.2 = (readT l f).2.2 ∧ ((readT l f).2.2 ≠ 0 → (∃ a b, (readT l f).2.1 = (f, a, b) ∧ (readT l g).2.1 = (g, a, b)) ∨ (readT l f).2.1 = (0, 0, 0) ∧ (readT l g).2.1 = (0, 0, 0)) := by
  unfold readT
  split
  · exact ⟨rfl, rfl, fun _ => .inr ⟨rfl, rfl⟩⟩
  · obtain ⟨h1, h2, h3, _⟩ := rdA_file f g (l.length + 1) l (1, 1) []
    exact ⟨h1, h2, fun h => .inl (h3 h)⟩
/-- The number of a file matters for places alone. -/
theorem src_file (l : List UInt8) (f g : Int) : (srcT l g).1 = (srcT l f).1 ∧ (srcT l g).2.2 = (srcT l f).2.2 ∧ ((srcT l f).2.2 ≠ 0 → (∃ a b, (srcT l f).2.1 = (f, a, b) ∧ (srcT l g).2.1 = (g, a, b)) ∨ (srcT l f).2.1 = (0, 0, 0) ∧ (srcT l g).2.1 = (0, 0, 0)) := by
  obtain ⟨h1, h2, h3⟩ := readT_file l f g
  unfold srcT
  rw [h1, h2]
  by_cases he : (readT l f).2.2 ≠ 0
  · rw [if_pos he, if_pos he]
    exact ⟨rfl, rfl, h3⟩
  · rw [if_neg he, if_neg he]
    split
    · exact ⟨rfl, rfl, fun h => absurd rfl h⟩
    · exact ⟨rfl, rfl, fun _ => .inl ⟨_, _, rfl, rfl⟩⟩
def shF (c : Nat) (x : FdT) : FdT := (x.1 + c, x.2)
def shG (c : Nat) (p : Int × List FdT) : Int × List FdT := (p.1 + c, p.2.map (shF c))
/-- The number of a file. -/
def Fno (x : Int) : Prop := 0 ≤ x ∧ x ≤ 100
def GivNn (giv : GivT) : Prop := ∀ p ∈ giv, ∀ x ∈ p.2, Fno x.1
/-- Two loadings that agree but for the numbers of the files. -/
def LrRel (c : Nat) : Lr → Lr → Prop
  | .error (p, e), .error (q, e') => e' = e ∧ (q = (p.1 + c, p.2.1, p.2.2) ∧ Fno p.1 ∨ p = (0, 0, 0) ∧ q = (0, 0, 0))
  | .ok (o, g, d), .ok (o', g', d') => o' = o ∧ g' = g.map (shG c) ∧ d' = d.map (shF c) ∧ GivNn g ∧ ∀ x ∈ d, Fno x.1
  | _, _ => False
theorem givT_sh (c : Nat) (giv : GivT) (k : Nat) : givT (giv.map (shG c)) (k + c) = (givT giv k).map (List.map (shF c)) := by
  unfold givT
  induction giv with
  | nil => rfl
  | cons p g ih =>
    simp only [List.map_cons, List.find?_cons]
    have e : decide ((shG c p).1 = ((k + c : Nat) : Int)) = decide (p.1 = (k : Int)) := by
      unfold shG
      simp only [decide_eq_decide]
      omega
    rw [e]
    cases decide (p.1 = (k : Int)) with
    | true => rfl
    | false => exact ih
theorem contains_sh (c : Nat) (opn : List Nat) (k : Nat) : (opn.map (· + c)).contains (k + c) = opn.contains k := by
  rw [Bool.eq_iff_iff, List.contains_iff_mem, List.contains_iff_mem, List.mem_map]
  constructor
  · rintro ⟨a, ha, e⟩
    obtain rfl : a = k := by omega
    exact ha
  · intro h; exact ⟨k, h, rfl⟩
theorem posD_sh (c : Nat) (x : FdT) : posD (shF c x) = ((posD x).1 + c, (posD x).2.1, (posD x).2.2) := rfl
theorem getD_sh (c : Nat) (l : List FdT) (k : Nat) (h : k < l.length) : posD ((l.map (shF c)).getD k zeroD) = ((posD (l.getD k zeroD)).1 + c, (posD (l.getD k zeroD)).2.1, (posD (l.getD k zeroD)).2.2) := by
  rw [List.getD_eq_getElem?_getD, List.getD_eq_getElem?_getD, List.getElem?_map, List.getElem?_eq_getElem h]
  rfl
theorem getD_nn (l : List FdT) (hn : ∀ x ∈ l, Fno x.1) (k : Nat) : Fno (posD (l.getD k zeroD)).1 := by
  rw [List.getD_eq_getElem?_getD]
  cases h : l[k]? with
  | none => exact ⟨Int.le_refl 0, by show (0 : Int) ≤ 100; omega⟩
  | some x => exact hn x (List.mem_of_getElem? h)
section
variable (c : Nat) (F F' : List FileT)
def GoSh (opn : List Nat) (go go' : List ByteArray → GivT → Nat → Nat → Lr) : Prop :=
  ∀ ord giv k b, GivOk F opn ord giv → k < F.length → k ∉ opn → givT giv k = none → b ≤ 6000 → GivNn giv → LrRel c (go ord giv k b) (go' ord (giv.map (shG c)) (k + c) b)
theorem room_sh (b : Nat) (out : List FdT) : roomT b (out.map (shF c)) = roomT b out := by simp [roomT]
theorem ldLoop_sh {opn : List Nat} {go go' : List ByteArray → GivT → Nat → Nat → Lr} (hs : GoSh c F opn go go') (hgo : GoOk F opn go) (b : Nat) : ∀ (r : List FdT) (ord : List ByteArray) (giv : GivT) (out : List FdT),
    (∀ d ∈ r, Fno d.1 ∧ (d.2.kind = 6 → findF F' d.2.name = (findF F d.2.name).map (· + c))) → GivOk F opn ord giv → b + out.length ≤ 6000 → GivNn giv → (∀ x ∈ out, Fno x.1) →
    LrRel c (ldLoop go F opn b r ord giv out) (ldLoop go' F' (opn.map (· + c)) b (r.map (shF c)) ord (giv.map (shG c)) (out.map (shF c)))
  | [], ord, giv, out, _, _, _, hn, ho => ⟨rfl, rfl, rfl, hn, ho⟩
  | d :: r, ord, giv, out, hr, hg, hb, hn, ho => by
    obtain ⟨hd0, hd6⟩ := hr d List.mem_cons_self
    have hr' := fun d hm => hr d (List.mem_cons_of_mem _ hm)
    rw [List.map_cons]
    -- what is added behind the definitions so far
    have key : ∀ (m : List FdT) (ord : List ByteArray) (giv : GivT), GivOk F opn ord giv → GivNn giv → (∀ x ∈ m, Fno x.1) →
        LrRel c (if roomT b out < m.length then .error (posD (m.getD (roomT b out) zeroD), 3) else ldLoop go F opn b r ord giv (out ++ m))
          (if roomT b (out.map (shF c)) < (m.map (shF c)).length then .error (posD ((m.map (shF c)).getD (roomT b (out.map (shF c))) zeroD), 3) else ldLoop go' F' (opn.map (· + c)) b (r.map (shF c)) ord (giv.map (shG c)) (out.map (shF c) ++ m.map (shF c))) := by
      intro m ord giv hg hn hm
      rw [room_sh, List.length_map]
      by_cases hlt : roomT b out < m.length
      · rw [if_pos hlt, if_pos hlt, getD_sh c m _ hlt]
        exact ⟨rfl, .inl ⟨rfl, getD_nn m hm _⟩⟩
      · rw [if_neg hlt, if_neg hlt, ← List.map_append]
        refine ldLoop_sh hs hgo b r ord giv (out ++ m) hr' hg ?_ hn ?_
        · unfold roomT at hlt; rw [List.length_append]; omega
        · intro x hx
          rcases List.mem_append.1 hx with hx | hx
          · exact ho x hx
          · exact hm x hx
    by_cases hk : d.2.kind = 6
    · have hk' : (shF c d).2.kind = 6 := hk
      cases hf : findF F d.2.name with
      | none =>
        have hf' : findF F' (shF c d).2.name = none := by rw [show (shF c d).2.name = d.2.name from rfl, hd6 hk, hf]; rfl
        rw [loop_none hk hf, loop_none hk' hf']
        exact ⟨rfl, .inl ⟨rfl, hd0⟩⟩
      | some k =>
        have hf' : findF F' (shF c d).2.name = some (k + c) := by rw [show (shF c d).2.name = d.2.name from rfl, hd6 hk, hf]; rfl
        cases hp : opn.contains k with
        | true =>
          rw [loop_circle hk hf hp, loop_circle hk' hf' (by rw [contains_sh]; exact hp)]
          exact ⟨rfl, .inl ⟨rfl, hd0⟩⟩
        | false =>
          have hkn : k ∉ opn := fun hm => by rw [List.contains_iff_mem.2 hm] at hp; cases hp
          cases hv : givT giv k with
          | some l =>
            rw [loop_known hk hf hp hv, loop_known (l := l.map (shF c)) hk' hf' (by rw [contains_sh]; exact hp) (by rw [givT_sh, hv]; rfl)]
            obtain ⟨i, hi, e⟩ := givT_some hv
            exact key l ord giv hg hn (fun x hx => hn giv[i] (List.getElem_mem hi) x (by rw [e]; exact hx))
          | none =>
            rw [loop_new hk hf hp hv, loop_new hk' hf' (by rw [contains_sh]; exact hp) (by rw [givT_sh, hv]; rfl), List.length_map]
            have h1 := hs ord giv k (b + out.length) hg (findF_lt hf) hkn hv hb hn
            cases hx : go ord giv k (b + out.length) with
            | error e =>
              rw [hx] at h1
              cases hy : go' ord (giv.map (shG c)) (k + c) (b + out.length) with
              | error e' => rw [hy] at h1; exact h1
              | ok y => rw [hy] at h1; exact h1.elim
            | ok x =>
              rw [hx] at h1
              cases hy : go' ord (giv.map (shG c)) (k + c) (b + out.length) with
              | error e' => rw [hy] at h1; exact h1.elim
              | ok y =>
                rw [hy] at h1
                obtain ⟨o1, g1, m1⟩ := x
                obtain ⟨o2, g2, m2⟩ := y
                obtain ⟨rfl, rfl, rfl, h4, h5⟩ := h1
                obtain ⟨q1, _⟩ := hgo _ _ _ _ _ _ _ hx hg (findF_lt hf) hkn hv hb
                exact key m1 o2 g1 q1 h4 h5
    · have hk' : (shF c d).2.kind ≠ 6 := hk
      rw [loop_def hk, loop_def hk']
      exact key [d] ord giv hg hn (fun x hx => by simp only [List.mem_singleton] at hx; subst hx; exact hd0)
variable {F F'}
theorem ldT_sh (hF : F.length ≤ 100) (hN : ∀ k < F.length, F'.getD (k + c) ⟨⟨#[]⟩, ⟨#[]⟩⟩ = F.getD k ⟨⟨#[]⟩, ⟨#[]⟩⟩) (hI : ∀ k < F.length, ∀ d ∈ (srcT (F.getD k ⟨⟨#[]⟩, ⟨#[]⟩⟩).text.data.toList k).1, d.kind = 6 → findF F' d.name = (findF F d.name).map (· + c)) :
    ∀ (f f' : Nat) (opn : List Nat), F.length < opn.length + f → F.length < opn.length + f' → GoSh c F opn (ldT F f opn) (ldT F' f' (opn.map (· + c)))
  | 0, _, opn, h, _ => fun ord giv k b hg hk hkn hv hb hn => by have := hg.short; omega
  | f + 1, 0, opn, _, h => fun ord giv k b hg hk hkn hv hb hn => by have := hg.short; omega
  | f + 1, f' + 1, opn, h, h' => fun ord giv k b hg hk hkn hv hb hn => by
    obtain ⟨e1, e2, e3⟩ := src_file (F.getD k ⟨⟨#[]⟩, ⟨#[]⟩⟩).text.data.toList k ((k + c : Nat) : Int)
    simp only [ldT]
    rw [show F'.getD (k + c) ⟨⟨#[]⟩, ⟨#[]⟩⟩ = F.getD k ⟨⟨#[]⟩, ⟨#[]⟩⟩ from hN k hk, e1, e2]
    by_cases he : (srcT (F.getD k ⟨⟨#[]⟩, ⟨#[]⟩⟩).text.data.toList k).2.2 ≠ 0
    · rw [if_pos he, if_pos he]
      rcases e3 he with ⟨a, q, e4, e5⟩ | ⟨e4, e5⟩
      · rw [e4, e5]
        exact ⟨rfl, .inl ⟨by simp, by show (0 : Int) ≤ (k : Int); omega, by show (k : Int) ≤ 100; omega⟩⟩
      · rw [e4, e5]
        exact ⟨rfl, .inr ⟨rfl, rfl⟩⟩
    · rw [if_neg he, if_neg he]
      have hkx : ∀ D : List DefT, tagT ((k + c : Nat) : Int) D = (tagT k D).map (shF c) := by
        intro D
        simp [tagT, shF]
      have hox : opn.map (· + c) ++ [k + c] = (opn ++ [k]).map (· + c) := by simp
      rw [hkx, hox]
      have h1 := ldLoop_sh c F F' (ldT_sh hF hN hI f f' (opn ++ [k]) (by simp; omega) (by simp; omega)) (ldT_ok F f (opn ++ [k])) b (tagT k (srcT (F.getD k ⟨⟨#[]⟩, ⟨#[]⟩⟩).text.data.toList k).1) (ord ++ [(F.getD k ⟨⟨#[]⟩, ⟨#[]⟩⟩).name]) giv []
        (fun d hd => by
          obtain ⟨x, hx, rfl⟩ := List.mem_map.1 hd
          exact ⟨⟨by show (0 : Int) ≤ (k : Int); omega, by show (k : Int) ≤ 100; omega⟩, fun h6 => hI k hk x hx h6⟩) (hg.open1 hk hkn hv _) (by simpa using hb) hn (fun x hx => by cases hx)
      rw [List.map_nil] at h1
      generalize ldLoop (ldT F f (opn ++ [k])) F (opn ++ [k]) b (tagT k (srcT (F.getD k ⟨⟨#[]⟩, ⟨#[]⟩⟩).text.data.toList k).1) (ord ++ [(F.getD k ⟨⟨#[]⟩, ⟨#[]⟩⟩).name]) giv [] = X at h1 ⊢
      generalize ldLoop (ldT F' f' ((opn ++ [k]).map (· + c))) F' ((opn ++ [k]).map (· + c)) b ((tagT k (srcT (F.getD k ⟨⟨#[]⟩, ⟨#[]⟩⟩).text.data.toList k).1).map (shF c)) (ord ++ [(F.getD k ⟨⟨#[]⟩, ⟨#[]⟩⟩).name]) (giv.map (shG c)) [] = Y at h1 ⊢
      cases X with
      | error e =>
        cases Y with
        | error y => exact h1
        | ok y => exact h1.elim
      | ok x =>
        cases Y with
        | error y => exact h1.elim
        | ok y =>
          obtain ⟨o1, g1, m1⟩ := x
          obtain ⟨o2, g2, m2⟩ := y
          obtain ⟨rfl, rfl, rfl, h4, h5⟩ := h1
          refine ⟨rfl, ?_, rfl, ?_, h5⟩
          · simp [shG]
          · intro p hp
            rcases List.mem_append.1 hp with hp | hp
            · exact h4 p hp
            · simp only [List.mem_singleton] at hp; subst hp; exact h5
end
theorem dupF_no : ∀ (F seen : List FileT), ((seen ++ F).map FileT.name).Nodup → dupF seen F = false
  | [], _, _ => rfl
  | f :: F, seen, h => by
    simp only [dupF, Bool.or_eq_false_iff]
    constructor
    · rw [List.any_eq_false]
      intro g hg e
      simp only [decide_eq_true_eq] at e
      rw [List.map_append, List.nodup_append] at h
      exact h.2.2 g.name (List.mem_map.2 ⟨g, hg, rfl⟩) f.name (by simp) e
    · exact dupF_no F (seen ++ [f]) (by simpa using h)
theorem givOk_nil (F : List FileT) : GivOk F [] [] [] := ⟨⟨[], rfl, by simp, by simp⟩, by simp, rfl⟩
/-- A file more, at the end or in front. -/
theorem load_sh (c : Nat) {F F' : List FileT} {m : ByteArray} {k : Nat} (hl : F.length ≤ 8) (hl' : F'.length ≤ 8) (hle : F.length ≤ F'.length) (hd : dupF [] F = false) (hd' : dupF [] F' = false) (hk : findF F m = some k) (hk' : findF F' m = some (k + c))
    (hN : ∀ k < F.length, F'.getD (k + c) ⟨⟨#[]⟩, ⟨#[]⟩⟩ = F.getD k ⟨⟨#[]⟩, ⟨#[]⟩⟩) (hI : ∀ k < F.length, ∀ d ∈ (srcT (F.getD k ⟨⟨#[]⟩, ⟨#[]⟩⟩).text.data.toList k).1, d.kind = 6 → findF F' d.name = (findF F d.name).map (· + c)) :
    (LoadT F' m).2.2 = (LoadT F m).2.2 ∧ (LoadT F' m).1 = (LoadT F m).1.map (shF c) ∧ ((LoadT F' m).2.1 = ((LoadT F m).2.1.1 + c, (LoadT F m).2.1.2.1, (LoadT F m).2.1.2.2) ∧ Fno (LoadT F m).2.1.1 ∨ (LoadT F m).2.1 = (0, 0, 0) ∧ (LoadT F' m).2.1 = (0, 0, 0)) := by
  have e1 : loadT F m = ldT F (F.length + 1) [] [] [] k 0 := by
    unfold loadT
    rw [if_neg (by omega), if_neg (by rw [hd]; simp), hk]
  have e2 : loadT F' m = ldT F' (F'.length + 1) [] [] [] (k + c) 0 := by
    unfold loadT
    rw [if_neg (by omega), if_neg (by rw [hd']; simp), hk']
  have h := ldT_sh c (by omega) hN hI (F.length + 1) (F'.length + 1) [] (by simp) (by simp; omega) [] [] k 0 (givOk_nil F) (findF_lt hk) (by simp) rfl (by omega) (fun p hp => by cases hp)
  unfold LoadT
  rw [e1, e2]
  rw [List.map_nil, List.map_nil] at h
  cases hx : ldT F (F.length + 1) [] [] [] k 0 with
  | error x =>
    rw [hx] at h
    cases hy : ldT F' (F'.length + 1) [] [] [] (k + c) 0 with
    | error y =>
      rw [hy] at h
      exact ⟨h.1, rfl, h.2⟩
    | ok y => rw [hy] at h; exact h.elim
  | ok x =>
    rw [hx] at h
    cases hy : ldT F' (F'.length + 1) [] [] [] (k + c) 0 with
    | error y => rw [hy] at h; exact h.elim
    | ok y =>
      rw [hy] at h
      exact ⟨rfl, h.2.2.1, .inr ⟨rfl, rfl⟩⟩
end Go.Proofs.YtofhcgbihonckaaGreat

namespace Go.Proofs.YtofhcgbihonckaaGreat
open Go.RowKit

section
variable (L : List Tok)
/-- A definition of bounded length. -/
def OkD (d : DefT) : Prop := d.parts.length ≤ 6002 ∧ ∀ p ∈ d.parts, p.cells.length ≤ 6002
theorem OkD.nil {d : DefT} (h : d.parts = []) : OkD d := ⟨by rw [h]; simp, fun p hp => by rw [h] at hp; cases hp⟩
theorem cellsR_len : ∀ (n i : Nat) (acc : List CellT) (j : Nat) (cs : List CellT), cellsR L n i acc = .ok (j, cs) → cs.length ≤ acc.length + n
  | 0, i, acc, j, cs, h => by cases h
  | n + 1, i, acc, j, cs, h => by
    rw [cellsR] at h
    split at h
    · cases h; omega
    · split at h
      · split at h
        · have := cellsR_len n _ _ _ _ h; simp at this; omega
        · cases h
      · split at h
        · cases h
        · have := cellsR_len n _ _ _ _ h; simp at this; omega
theorem partR_len {i j : Nat} {p : PartT} (h : partR L i = .ok (j, p)) : p.cells.length ≤ fuelP L := by
  unfold partR at h
  split at h
  · cases h; simp
  · split at h
    · split at h
      · cases h; simp
      · cases h
    · split at h
      · split at h
        · rename_i hc; cases h
          have := cellsR_len L _ _ _ _ _ hc
          simpa using this
        · cases h
      · split at h
        · split at h
          · cases h; simp
          · cases h
        · cases h
theorem partsR_len : ∀ (n : Nat) (sep : List UInt8) (i : Nat) (acc : List PartT) (j : Nat) (ps : List PartT), partsR L n sep i acc = .ok (j, ps) → (∀ p ∈ acc, p.cells.length ≤ fuelP L) → ps.length ≤ acc.length + n ∧ ∀ p ∈ ps, p.cells.length ≤ fuelP L
  | 0, sep, i, acc, j, ps, h, _ => by cases h
  | n + 1, sep, i, acc, j, ps, h, ha => by
    rw [partsR] at h
    split at h
    · cases h1 : partR L (i + 1) with
      | error e => rw [h1] at h; cases h
      | ok q =>
        rw [h1] at h
        obtain ⟨m, p⟩ := q
        have h2 := partR_len L h1
        obtain ⟨h3, h4⟩ := partsR_len n _ _ _ _ _ h (fun x hx => by
          rcases List.mem_append.1 hx with hx | hx
          · exact ha x hx
          · simp only [List.mem_singleton] at hx; subst hx; exact h2)
        exact ⟨by simp at h3; omega, h4⟩
    · cases h; exact ⟨by omega, ha⟩
theorem del_parts {kind what : Int} {before : List UInt8} {right : List UInt8 → Bool} {i j : Nat} {ds : List DefT} (h : delR L kind what before right i = .ok (j, ds)) : ∃ d, ds = [d] ∧ d.parts = [] := by
  unfold delR at h
  cases h1 : takenR L what right (i + 1) with
  | error e => rw [h1] at h; cases h
  | ok m =>
    rw [h1] at h
    simp only at h
    cases h2 : signR L [59] m with
    | error e => rw [h2] at h; cases h
    | ok q =>
      rw [h2] at h
      cases h
      exact ⟨_, rfl, rfl⟩
variable (hL : L.length ≤ 6001)
include hL
/-- Definitions are of bounded length. -/
theorem srcE_len : ∀ (n : Nat) (md : Md) (i j : Nat) (ds : List DefT), srcE L n md i = .ok (j, ds) → (match md with
    | .body d _ => OkD d
    | .mems _ acc => ∀ d ∈ acc, OkD d
    | _ => True) → ∀ d ∈ ds, OkD d
  | 0, md, i, j, ds, h, _ => by cases md <;> cases h
  | n + 1, .body d dp, i, j, ds, h, hd => by
    rw [srcE] at h
    split at h
    · split at h
      · cases h
      · exact srcE_len n (.mems dp [d]) _ _ _ h (fun x hx => by simp only [List.mem_singleton] at hx; subst hx; exact hd)
    · cases h
  | n + 1, .mems dp acc, i, j, ds, h, hd => by
    rw [srcE] at h
    split at h
    · cases h
      intro x hx
      rcases List.mem_append.1 hx with hx | hx
      · exact hd x hx
      · simp only [List.mem_singleton] at hx; subst hx; exact .nil rfl
    · cases h1 : srcE L n (.member dp) i with
      | error e => rw [h1] at h; cases h
      | ok q =>
        rw [h1] at h
        obtain ⟨m, xs⟩ := q
        have h2 := srcE_len n (.member dp) _ _ _ h1 trivial
        refine srcE_len n (.mems dp (acc ++ xs)) _ _ _ h (fun x hx => ?_)
        rcases List.mem_append.1 hx with hx | hx
        · exact hd x hx
        · exact h2 x hx
  | n + 1, .member dp, i, j, ds, h, _ => by
    rw [srcE] at h
    split at h
    · cases h1 : takenR L 5 labelT i with
      | error e => rw [h1] at h; cases h
      | ok a =>
        rw [h1] at h
        simp only at h
        cases h2 : takenR L 1 nameT a with
        | error e => rw [h2] at h; cases h
        | ok b =>
          rw [h2] at h
          simp only at h
          cases h3 : srcE L n (.body ⟨1, txN L i, txN L a, [], (tkN L i).line, (tkN L i).col⟩ (dp + 1)) b with
          | error e => rw [h3] at h; cases h
          | ok q =>
            rw [h3] at h
            obtain ⟨m, xs⟩ := q
            simp only at h
            have h6 := srcE_len n _ _ _ _ h3 (.nil rfl)
            cases h4 : signR L [59] m with
            | error e => rw [h4] at h; cases h
            | ok q => rw [h4] at h; cases h; exact h6
    · split at h
      · cases h1 : srcE L n (.named dp) i with
        | error e => rw [h1] at h; cases h
        | ok q =>
          rw [h1] at h
          obtain ⟨m, xs⟩ := q
          simp only at h
          have h6 := srcE_len n _ _ _ _ h1 trivial
          cases h4 : signR L [59] m with
          | error e => rw [h4] at h; cases h
          | ok q => rw [h4] at h; cases h; exact h6
      · split at h
        · obtain ⟨d, rfl, a3⟩ := del_parts L h
          intro x hx
          simp only [List.mem_singleton] at hx; subst hx; exact .nil a3
        · split at h
          · obtain ⟨d, rfl, a3⟩ := del_parts L h
            intro x hx
            simp only [List.mem_singleton] at hx; subst hx; exact .nil a3
          · cases h
  | n + 1, .named dp, i, j, ds, h, _ => by
    rw [srcE] at h
    split at h
    · split at h
      · exact srcE_len n _ _ _ _ h (.nil rfl)
      · cases h
    · split at h
      · cases h1 : partsR L (fuelP L) [61] (i + 1) [] with
        | error e => rw [h1] at h; cases h
        | ok q =>
          rw [h1] at h
          obtain ⟨m, ps⟩ := q
          cases h
          intro x hx
          simp only [List.mem_singleton] at hx; subst hx
          have h5 := partsR_len L _ _ _ _ _ _ h1 (fun x hx => by cases hx)
          have hf : fuelP L ≤ 6002 := by unfold fuelP; omega
          exact ⟨by have := h5.1; simp at this; show ps.length ≤ 6002; omega, fun p hp => Nat.le_trans (h5.2 p hp) hf⟩
      · cases h
theorem endR_len {d : DefT} {i j : Nat} {ds : List DefT} (h : endR L d i = .ok (j, ds)) (hd : OkD d) : ∀ x ∈ ds, OkD x := by
  unfold endR at h
  cases h1 : srcE L (fuelS L) (.body d 0) i with
  | error e => rw [h1] at h; cases h
  | ok q =>
    rw [h1] at h
    obtain ⟨m, xs⟩ := q
    simp only at h
    have h6 := srcE_len L hL _ _ _ _ _ h1 hd
    cases h4 : signR L [59] m with
    | error e => rw [h4] at h; cases h
    | ok q => rw [h4] at h; cases h; exact h6
theorem top_len {i j : Nat} {ds : List DefT} (h : topR L i = .ok (j, ds)) : ∀ d ∈ ds, OkD d := by
  unfold topR at h
  split at h
  · cases h1 : takenR L 5 labelT i with
    | error e => rw [h1] at h; cases h
    | ok a =>
      rw [h1] at h
      simp only at h
      cases h2 : signR L [47] a with
      | error e => rw [h2] at h; cases h
      | ok b => rw [h2] at h; exact endR_len L hL h (.nil rfl)
  · split at h
    · exact endR_len L hL h (.nil rfl)
    · split at h
      · cases h1 : takenR L 6 labelT i with
        | error e => rw [h1] at h; cases h
        | ok a => rw [h1] at h; exact endR_len L hL h (.nil rfl)
      · split at h
        · obtain ⟨d, rfl, a3⟩ := del_parts L h
          intro x hx
          simp only [List.mem_singleton] at hx; subst hx; exact .nil a3
        · split at h
          · obtain ⟨d, rfl, a3⟩ := del_parts L h
            intro x hx
            simp only [List.mem_singleton] at hx; subst hx; exact .nil a3
          · cases h
theorem tops_len : ∀ (n i : Nat) (acc D : List DefT), topsR L n i acc = .ok D → (∀ d ∈ acc, OkD d) → ∀ d ∈ D, OkD d
  | 0, i, acc, D, h, _ => by cases h
  | n + 1, i, acc, D, h, ha => by
    rw [topsR] at h
    split at h
    · cases h; exact ha
    · cases h1 : topR L i with
      | error e => rw [h1] at h; cases h
      | ok q =>
        rw [h1] at h
        obtain ⟨j, ds⟩ := q
        refine tops_len n _ _ _ h (fun d hd => ?_)
        rcases List.mem_append.1 hd with hd | hd
        · exact ha d hd
        · exact top_len L hL h1 d hd
end
theorem src_len (l : List UInt8) (file : Int) : ∀ d ∈ (srcT l file).1, OkD d := by
  intro d hd
  unfold srcT at hd
  split at hd
  · cases hd
  · split at hd
    · rename_i hD; exact tops_len _ (readT_text l file).2.1 _ _ _ _ hD (fun d hd => by cases hd) d hd
    · cases hd
section
variable (P : FdT → Prop) {F : List FileT}
theorem ldLoop_all {opn : List Nat} {go : List ByteArray → GivT → Nat → Nat → Lr} (hgo : ∀ ord giv k b ord' giv' o, go ord giv k b = .ok (ord', giv', o) → k < F.length → (∀ p ∈ giv, ∀ x ∈ p.2, P x) → (∀ p ∈ giv', ∀ x ∈ p.2, P x) ∧ ∀ x ∈ o, P x) (before : Nat) : ∀ (r : List FdT) (ord : List ByteArray) (giv : GivT) (out : List FdT) (ord' : List ByteArray) (giv' : GivT) (out' : List FdT),
    ldLoop go F opn before r ord giv out = .ok (ord', giv', out') → (∀ x ∈ r, P x) → (∀ p ∈ giv, ∀ x ∈ p.2, P x) → (∀ x ∈ out, P x) → (∀ p ∈ giv', ∀ x ∈ p.2, P x) ∧ ∀ x ∈ out', P x
  | [], ord, giv, out, ord', giv', out', h, _, hg, ho => by
    simp only [ldLoop, Except.ok.injEq, Prod.mk.injEq] at h
    obtain ⟨rfl, rfl, rfl⟩ := h
    exact ⟨hg, ho⟩
  | d :: r, ord, giv, out, ord', giv', out', h, hr, hg, ho => by
    have hd := hr d List.mem_cons_self
    have hr' := fun x hx => hr x (List.mem_cons_of_mem _ hx)
    have happ : ∀ m : List FdT, (∀ x ∈ m, P x) → ∀ x ∈ out ++ m, P x := fun m hm x hx => by
      rcases List.mem_append.1 hx with hx | hx
      · exact ho x hx
      · exact hm x hx
    by_cases hk : d.2.kind = 6
    · cases hf : findF F d.2.name with
      | none => rw [loop_none hk hf] at h; cases h
      | some k =>
        cases hop : opn.contains k with
        | true => rw [loop_circle hk hf hop] at h; cases h
        | false =>
          cases hv : givT giv k with
          | some l =>
            rw [loop_known hk hf hop hv] at h
            split at h
            · cases h
            · obtain ⟨i, hi, e⟩ := givT_some hv
              exact ldLoop_all hgo before r _ _ _ _ _ _ h hr' hg (happ l (fun x hx => hg _ (List.getElem_mem hi) x (by rw [e]; exact hx)))
          | none =>
            rw [loop_new hk hf hop hv] at h
            cases hgo2 : go ord giv k (before + out.length) with
            | error e => rw [hgo2] at h; cases h
            | ok x =>
              obtain ⟨o1, g1, l⟩ := x
              rw [hgo2] at h
              simp only at h
              obtain ⟨q1, q2⟩ := hgo _ _ _ _ _ _ _ hgo2 (findF_lt hf) hg
              split at h
              · cases h
              · exact ldLoop_all hgo before r _ _ _ _ _ _ h hr' q1 (happ l q2)
    · rw [loop_def hk] at h
      split at h
      · cases h
      · exact ldLoop_all hgo before r _ _ _ _ _ _ h hr' hg (happ [d] (fun x hx => by simp only [List.mem_singleton] at hx; subst hx; exact hd))
/-- What holds of every text's definitions holds of all that is loaded. -/
theorem ldT_all (hs : ∀ k < F.length, ∀ d ∈ (srcT (F.getD k ⟨⟨#[]⟩, ⟨#[]⟩⟩).text.data.toList k).1, P ((k : Int), d)) : ∀ (f : Nat) (opn : List Nat) (ord : List ByteArray) (giv : GivT) (k b : Nat) (ord' : List ByteArray) (giv' : GivT) (o : List FdT), ldT F f opn ord giv k b = .ok (ord', giv', o) → k < F.length → (∀ p ∈ giv, ∀ x ∈ p.2, P x) → (∀ p ∈ giv', ∀ x ∈ p.2, P x) ∧ ∀ x ∈ o, P x
  | 0, opn, ord, giv, k, b, ord', giv', o, h, _, _ => by simp only [ldT] at h; cases h
  | f + 1, opn, ord, giv, k, b, ord', giv', o, h, hk, hg => by
    simp only [ldT] at h
    split at h
    · cases h
    · cases hl : ldLoop (ldT F f (opn ++ [k])) F (opn ++ [k]) b (tagT k (srcT (F.getD k ⟨⟨#[]⟩, ⟨#[]⟩⟩).text.data.toList k).1) (ord ++ [(F.getD k ⟨⟨#[]⟩, ⟨#[]⟩⟩).name]) giv [] with
      | error e => rw [hl] at h; cases h
      | ok x =>
        obtain ⟨o1, g1, l⟩ := x
        rw [hl] at h
        simp only [Except.ok.injEq, Prod.mk.injEq] at h
        obtain ⟨rfl, rfl, rfl⟩ := h
        obtain ⟨q1, q2⟩ := ldLoop_all P (ldT_all hs f (opn ++ [k])) b _ _ _ _ _ _ _ hl (fun x hx => by
          obtain ⟨d, hd, rfl⟩ := List.mem_map.1 hx
          exact hs k hk d hd) hg (fun x hx => by cases hx)
        refine ⟨fun p hp => ?_, q2⟩
        rcases List.mem_append.1 hp with hp | hp
        · exact q1 p hp
        · simp only [List.mem_singleton] at hp; subst hp; exact q2
end
theorem load_all {F : List FileT} {m : ByteArray} (P : FdT → Prop) (hs : ∀ k < F.length, ∀ d ∈ (srcT (F.getD k ⟨⟨#[]⟩, ⟨#[]⟩⟩).text.data.toList k).1, P ((k : Int), d)) {ord : List ByteArray} {giv : GivT} {out : List FdT} (h : loadT F m = .ok (ord, giv, out)) : ∀ x ∈ out, P x := by
  unfold loadT at h
  split at h
  · cases h
  · split at h
    · cases h
    · split at h
      · cases h
      · rename_i k hk
        exact (ldT_all P hs _ _ _ _ _ _ _ _ _ h (findF_lt hk) (fun p hp => by cases hp)).2
/-- All that is loaded is of bounded length. -/
theorem load_len {F : List FileT} {m : ByteArray} {ord : List ByteArray} {giv : GivT} {out : List FdT} (h : loadT F m = .ok (ord, giv, out)) : out.length ≤ 6000 ∧ ∀ x ∈ out, OkD x.2 := by
  refine ⟨?_, load_all (fun x => OkD x.2) (fun k _ d hd => src_len _ _ d hd) h⟩
  unfold loadT at h
  split at h
  · cases h
  · split at h
    · cases h
    · split at h
      · cases h
      · rename_i k hk
        have := (ldT_ok F _ [] [] [] k 0 _ _ _ h (givOk_nil F) (findF_lt hk) (by simp) rfl (by omega)).2
        omega
end Go.Proofs.YtofhcgbihonckaaGreat

namespace Go.Proofs.YtofhcgbihonckaaGreat
open Go.RowKit

theorem row_put {w : World} {base : Nat} {e : TypeId} {size g n cap : Nat} {xs : List Value} (h : w.ownsRow base e size (.slice (some ⟨g, 0, none⟩) n cap) n xs) (k : Nat) (hk : k < n * size) (x : Value) : (w.setCell ⟨g, k, none⟩ x).ownsRow base e size (.slice (some ⟨g, 0, none⟩) n cap) n (xs.set k x) := by
  refine ⟨by rw [List.length_set]; exact h.1, ?_⟩
  rcases h.2 with ⟨e1, _⟩ | ⟨g', cap', cur, e1, hb, hh, h1, h2, h3, h4⟩
  · cases e1
  · cases e1
    refine .inr ⟨g, cap, cur.setIfInBounds k x, rfl, hb, heap_setCell_same w g k cur e x hh, h1, h2, by simpa using h3, ?_⟩
    rw [← h4]
    simp [List.take_set]
theorem fdCells_set : ∀ (l : List FdT) (vs : List Value) (i : Nat) (v : Value), vs.length = l.length → (fdCells l vs).set (i * 7 + 3) v = fdCells l (vs.set i v)
  | [], [], i, v, _ => by simp [fdCells]
  | x :: xs, u :: us, 0, v, _ => by simp [fdCells]
  | x :: xs, u :: us, i + 1, v, h => by
    rw [show (i + 1) * 7 + 3 = (i * 7 + 3) + 7 from by omega]
    simp only [fdCells, List.set_cons_succ, List.cons.injEq, true_and]
    exact fdCells_set xs us i v (by simpa using h)
theorem partCells_set : ∀ (l : List PartT) (vs : List Value) (i : Nat) (v : Value), vs.length = l.length → (partCells l vs).set (i * 3 + 1) v = partCells l (vs.set i v)
  | [], [], i, v, _ => by simp [partCells]
  | x :: xs, u :: us, 0, v, _ => by simp [partCells]
  | x :: xs, u :: us, i + 1, v, h => by
    rw [show (i + 1) * 3 + 1 = (i * 3 + 1) + 3 from by omega]
    simp only [partCells, List.set_cons_succ, List.cons.injEq, true_and]
    exact partCells_set xs us i v (by simpa using h)
theorem partCells_one : ∀ (l : List PartT) (vs : List Value), (∀ u ∈ vs, u.oneCell' = true) → ∀ u ∈ partCells l vs, u.oneCell' = true
  | [], _, _, u, hu => by simp [partCells] at hu
  | x :: xs, [], _, u, hu => by simp [partCells] at hu
  | x :: xs, v :: vs, h, u, hu => by
    simp only [partCells, List.mem_cons] at hu
    rcases hu with rfl | rfl | rfl | hu
    · rfl
    · exact h _ List.mem_cons_self
    · rfl
    · exact partCells_one xs vs (fun u hu => h u (List.mem_cons_of_mem _ hu)) u hu
theorem cellCells_one (cs : List CellT) : ∀ u ∈ cellCells cs, u.oneCell' = true := by
  intro u hu
  unfold cellCells at hu
  obtain ⟨c, _, hc⟩ := List.mem_flatMap.1 hu
  simp only [List.mem_cons, List.not_mem_nil, or_false] at hc
  rcases hc with rfl | rfl <;> rfl
theorem cell_keepV {w w' : World} {g o : Nat} {x : Option Value} (h : w.cell? ⟨g, o, none⟩ = x) (hg : g < w.heap.size) (k : Below w.heap.size w w') : w'.cell? ⟨g, o, none⟩ = x := (k.cell (p := ⟨g, o, none⟩) hg).trans h
/-- Where the copying stands ahead of definition i. -/
structure CopS (w : World) (base g cap : Nat) (out : List FdT) (vs us : List Value) (i : Nat) (wr : World) : Prop where
  len : us.length = out.length
  row : wr.ownsRow w.heap.size 34 7 (.slice (some ⟨g, 0, none⟩) out.length cap) out.length (fdCells out us)
  done : ∀ j (h : j < out.length) (h2 : j < us.length), j < i → PartsRow wr w.heap.size us[j] out[j].2.parts
  left : ∀ j, i ≤ j → us[j]? = vs[j]?
  below : Below w.heap.size w wr
/-- Where it stands ahead of part k of definition i. -/
structure CopM (w : World) (base g cap : Nat) (out : List FdT) (vs us : List Value) (i : Nat) (ps : List PartT) (pv : Value) (cs ds : List Value) (k : Nat) (wr : World) : Prop where
  len : us.length = out.length
  row : wr.ownsRow w.heap.size 34 7 (.slice (some ⟨g, 0, none⟩) out.length cap) out.length (fdCells out us)
  here : us[i]? = some pv
  part : wr.ownsRow w.heap.size 75 3 pv ps.length (partCells ps ds)
  plen : ds.length = ps.length
  pdone : ∀ j (h : j < ps.length) (h2 : j < ds.length), j < k → CellsRow wr w.heap.size ds[j] ps[j].cells
  pleft : ∀ j, k ≤ j → ds[j]? = cs[j]?
  done : ∀ j (h : j < out.length) (h2 : j < us.length), j < i → PartsRow wr w.heap.size us[j] out[j].2.parts ∧ ∀ b, us[j].ownBlock = some b → pv.ownBlock ≠ some b
  left : ∀ j, i < j → us[j]? = vs[j]?
  below : Below w.heap.size w wr
/-- A row of parts is kept while its own block is, and no block of cells turns. -/
theorem PartsRow.keep3 {w w' : World} {base : Nat} {v : Value} {ps : List PartT} {S : Nat → Prop} (h : PartsRow w base v ps) (k : Keeps S w w') (hs : ∀ b, v.ownBlock = some b → ¬ S b) (ha : ∀ b, S b → ∃ cs t, Holds w b cs t ∧ t ≠ 72) : PartsRow w' base v ps := by
  obtain ⟨us, u1, u2, u3⟩ := h
  exact ⟨us, u1, ownsRow_keeps u2 k hs, fun i hi hi2 => ownsRow_keeps (u3 i hi hi2) k (fun b hb hS => by
    obtain ⟨cs, t, hc, hne⟩ := ha b hS
    obtain ⟨_, _, cur, hc2⟩ := own_lt (u3 i hi hi2) hb
    have := hc2.symm.trans hc
    injection this with this; injection this with _ this; exact hne this.symm)⟩
section
variable {w wr : World} {base g cap i k : Nat} {out : List FdT} {vs us : List Value} {ps : List PartT} {pv : Value} {cs ds : List Value}
/-- The parts of definition i have been copied. -/
theorem CopS.open1 (h : CopS w base g cap out vs us i wr) (hi : i < out.length) {w2 : World} (hb : Below wr.heap.size wr w2) (hp : w2.ownsRow wr.heap.size 75 3 pv ps.length (partCells ps cs)) (hc : cs.length = ps.length) :
    CopM w base g cap out vs (us.set i pv) i ps pv cs cs 0 (w2.setCell ⟨g, i * 7 + 3, none⟩ pv) := by
  have hrow2 := ownsRow_keeps h.row (Keeps.of_fresh hb (fun _ => False)) (fun _ _ e => e)
  have hws := h.below.size
  obtain ⟨hgs, hgb⟩ := hrow2.lt g rfl
  obtain ⟨_, _, cur, hgc⟩ := own_lt hrow2 (b := g) rfl
  have hl := h.len
  have hk : Keeps (· = g) w2 (w2.setCell ⟨g, i * 7 + 3, none⟩ pv) := (Keeps.refl (· = g) w2).setCell (p := ⟨g, i * 7 + 3, none⟩) (.inr rfl) pv
  refine ⟨by rw [List.length_set]; exact hl, ?_, by rw [List.getElem?_set_self (by omega)], row_base (ownsRow_keeps hp hk (fun b hb2 e => ?_)) hws, hc, fun j _ _ e => absurd e (by omega), fun j _ => rfl, fun j hj hj2 hji => ?_, fun j hj => ?_, ?_⟩
  · rw [← fdCells_set out us i pv hl]
    exact row_put hrow2 _ (by omega) pv
  · subst e
    obtain ⟨_, _, c2, hc2⟩ := own_lt hp hb2
    have := hc2.symm.trans hgc
    injection this with this; injection this with _ this; exact absurd this (by decide)
  · rw [List.length_set] at hj2
    have e1 : (us.set i pv)[j]'(by rw [List.length_set]; exact hj2) = us[j] := by rw [List.getElem_set_ne (by omega)]
    rw [e1]
    have hd := h.done j hj hj2 hji
    refine ⟨(hd.keep2 (Keeps.of_fresh hb (fun _ => False)) (fun _ _ e => e.elim)).keep3 hk (fun b hb2 e => ?_) (fun b e => by subst e; exact ⟨_, _, hgc, by decide⟩), fun b hb2 e => ?_⟩
    · subst e
      obtain ⟨_, _, hr, _⟩ := hd
      obtain ⟨_, _, c2, hc2⟩ := own_lt hr hb2
      have := (hb.block _ (lt_of_block hc2)).trans hc2
      have := this.symm.trans hgc
      injection this with this; injection this with _ this; exact absurd this (by decide)
    · obtain ⟨_, _, hr, _⟩ := hd
      have h1 := (own_lt hr hb2).1
      have h2 := (own_lt hp e).2.1
      omega
  · rw [List.getElem?_set_ne (by omega)]; exact h.left j (by omega)
  · exact (h.below.trans (hb.mono hws)).setCell (p := ⟨g, i * 7 + 3, none⟩) (by have := (h.row.lt g rfl).1; omega) pv
/-- The cells of part k have been copied. -/
theorem CopM.step {gp pc : Nat} (h : CopM w base g cap out vs us i ps (.slice (some ⟨gp, 0, none⟩) ps.length pc) cs ds k wr) (hk : k < ps.length) {w2 : World} {cv : Value} (hb : Below wr.heap.size wr w2) (hp : CellsRow w2 wr.heap.size cv ps[k].cells) :
    CopM w base g cap out vs us i ps (.slice (some ⟨gp, 0, none⟩) ps.length pc) cs (ds.set k cv) (k + 1) (w2.setCell ⟨gp, k * 3 + 1, none⟩ cv) := by
  have kf := Keeps.of_fresh hb (fun _ => False)
  have hrow2 := ownsRow_keeps h.row kf (fun _ _ e => e)
  have hpart2 := ownsRow_keeps h.part kf (fun _ _ e => e)
  have hws := h.below.size
  have hdl := h.plen
  obtain ⟨_, _, cur, hgc⟩ := own_lt hpart2 (b := gp) rfl
  have hk1 : Keeps (· = gp) w2 (w2.setCell ⟨gp, k * 3 + 1, none⟩ cv) := (Keeps.refl (· = gp) w2).setCell (p := ⟨gp, k * 3 + 1, none⟩) (.inr rfl) cv
  have hcell : ∀ {u : Value} {c : List CellT} {b0 : Nat}, CellsRow w2 b0 u c → CellsRow (w2.setCell ⟨gp, k * 3 + 1, none⟩ cv) b0 u c := by
    intro u c b0 hu
    refine ownsRow_keeps hu hk1 (fun b hb2 e => ?_)
    subst e
    obtain ⟨_, _, c2, hc2⟩ := own_lt hu hb2
    have := hc2.symm.trans hgc
    injection this with this; injection this with _ this; exact absurd this (by decide)
  refine ⟨h.len, ownsRow_keeps hrow2 hk1 (fun b hb2 e => ?_), h.here, ?_, by rw [List.length_set]; exact hdl, fun j hj hj2 hjk => ?_, fun j hj => ?_, fun j hj hj2 hji => ?_, h.left, ?_⟩
  · subst e
    obtain ⟨_, _, c2, hc2⟩ := own_lt hrow2 hb2
    have := hc2.symm.trans hgc
    injection this with this; injection this with _ this; exact absurd this (by decide)
  · rw [← partCells_set ps ds k cv hdl]
    exact row_put hpart2 _ (by omega) cv
  · have hj3 : j < ds.length := by simpa using hj2
    by_cases e : j = k
    · subst e
      have e1 : (ds.set j cv)[j]'hj2 = cv := by rw [List.getElem_set_self]
      rw [e1]
      exact (hcell hp).lower hws
    · have e1 : (ds.set k cv)[j]'hj2 = ds[j] := by rw [List.getElem_set_ne (by omega)]
      rw [e1]
      exact hcell (ownsRow_keeps (h.pdone j hj hj3 (by omega)) kf (fun _ _ e => e))
  · rw [List.getElem?_set_ne (by omega)]; exact h.pleft j (by omega)
  · obtain ⟨hd, hne⟩ := h.done j hj hj2 hji
    exact ⟨(hd.keep2 kf (fun _ _ e => e.elim)).keep3 hk1 (fun b hb2 e => by subst e; exact hne _ hb2 rfl) (fun b e => by subst e; exact ⟨_, _, hgc, by decide⟩), hne⟩
  · exact (h.below.trans (hb.mono hws)).setCell (p := ⟨gp, k * 3 + 1, none⟩) (by have := (h.part.lt gp rfl).1; omega) cv
/-- All parts of definition i have been copied. -/
theorem CopM.close1 (h : CopM w base g cap out vs us i ps pv cs ds ps.length wr) (hi : i < out.length) (he : out[i].2.parts = ps) : CopS w base g cap out vs us (i + 1) wr := by
  refine ⟨h.len, h.row, fun j hj hj2 hji => ?_, fun j hj => h.left j (by omega), h.below⟩
  by_cases e : j = i
  · subst e
    have e1 : us[j] = pv := by have := h.here; rw [List.getElem?_eq_getElem hj2] at this; exact Option.some.inj this
    rw [e1, he]
    exact ⟨ds, h.plen, h.part, fun k hk hk2 => h.pdone k hk hk2 hk⟩
  · exact (h.done j hj hj2 (by omega)).1
end
end Go.Proofs.YtofhcgbihonckaaGreat

namespace Go.Proofs.YtofhcgbihonckaaGreat
open Go.RowKit

theorem fds_frozen {w : World} {base : Nat} {e : TypeId} {size g n cap : Nat} {xs : List Value} (h : w.ownsRow base e size (.slice (some ⟨g, 0, none⟩) n cap) n xs) (j : Nat) : w.frozen? ⟨g, j, none⟩ = false := h.frozenAt j
set_option maxRecDepth 100000 in
set_option maxHeartbeats 8000000 in
theorem inc_copied (base : Nat) (v : Value) (out : List FdT) (w : World) (h : FdsRow w base v out) (hl : out.length ≤ 6000) (hok : ∀ x ∈ out, OkD x.2) :
    Calls Tryz.prog 41 #[v] w fun e w' => ∃ v', e = .returned v' ∧ FdsRow w' w.heap.size v' out ∧ Below w.heap.size w w' := by
  obtain ⟨vs, h1, h2, h3⟩ := h
  have hone : ∀ u ∈ vs, u.oneCell' = true := by
    intro u hu
    obtain ⟨k, hk, rfl⟩ := List.getElem_of_mem hu
    obtain ⟨a, c, e⟩ := (h3 k (by omega) hk).slice
    rw [e]; rfl
  have HCL := Lib.hid (defs_Clone base v out.length (fdCells out vs) w h2 (fdCells_one out vs hone) (by omega))
  have H3 := Lib.hid h3
  have HOK := Lib.hid hok
  have hvs : vs.length ≤ 6000 := by omega
  have H1 := Lib.hid h1
  clear h2 h3 hok hone h1
  go_enter Tryz.func41, Tryz.ntmps41
  go_wp2_with fail
  refine (by exact HCL.out : Calls _ _ _ _ _).mono ?_
  rintro e w1 ⟨v', rfl, hrow, hb1⟩
  obtain ⟨va, vc, rfl⟩ := row_slice hrow
  by_cases h0 : out.length = 0
  · have hnil : out = [] := List.length_eq_zero_iff.1 h0
    subst hnil
    have HROW := Lib.hid hrow
    have HB1 := Lib.hid hb1
    clear hrow hb1 h0
    go_wp2_with fail
    go_loopg [9] 1 (fun f x wr => x = .int .i64 0 ∧ w1 = wr)
    case atStart => exact ⟨rfl, rfl⟩
    case round =>
      obtain ⟨rfl, rfl⟩ := hrel
      go_wp2_with fail
      go_ret
      exact ⟨_, rfl, ⟨[], rfl, by simpa [fdCells] using HROW.out, fun k hk => by cases hk⟩, HB1.out⟩
  · obtain ⟨g, cap, e1, _, _, _⟩ := row_read hrow (by omega)
    cases e1
    have HROW := Lib.hid hrow
    have HB1 := Lib.hid hb1
    clear hrow hb1
    go_wp2_with fail
    go_loopg [9] (out.length) (fun f x wr => ∃ (i : Nat) (us : List Value), x = .int .i64 i ∧ i ≤ out.length ∧ out.length ≤ i + f ∧ CopS w base g vc out vs us i wr)
    case atStart => exact ⟨0, vs, rfl, by omega, by omega, H1.out, HROW.out, fun j _ _ e => absurd e (by omega), fun j _ => rfl, HB1.out⟩
    case round =>
      obtain ⟨i, us, rfl, hi1, hi2, hS⟩ := hrel
      obtain ⟨io, rfl⟩ : ∃ x : Nat, x = i := ⟨_, rfl⟩
      obtain ⟨go, rfl⟩ : ∃ x : Nat, x = gk := ⟨_, rfl⟩
      obtain ⟨wo, rfl⟩ : ∃ x : World, x = wr := ⟨_, rfl⟩
      by_cases hlt : io < out.length
      · have hsl := hS.len
        have hbl := hS.below
        have hrw := hS.row
        have e5 : us[io]'(by omega) = vs[io]'(by have := H1.out; omega) := by
          have := hS.left io (Nat.le_refl _)
          rw [List.getElem?_eq_getElem (by omega), List.getElem?_eq_getElem (by have := H1.out; omega)] at this
          exact Option.some.inj this
        have hp0 := H3.out io hlt (by have := H1.out; omega)
        rw [← e5] at hp0
        have hdk := HOK.out out[io] (List.getElem_mem hlt)
        obtain ⟨cs, c1, c2w, c3⟩ := hp0
        have c2 := ownsRow_keeps c2w (Keeps.of_fresh hbl (fun _ => False)) (fun _ _ e => e)
        clear c2w
        have hc0 : wo.cell? ⟨g, io * 7 + 3, none⟩ = some us[io] := by rw [hrw.cellAt _ (by omega)]; exact (fdCells_at out us io hlt (by omega) hsl).2.2.2.1
        have hgl := (hrw.lt g rfl).2
        have hf0 := fds_frozen hrw (io * 7 + 3)
        obtain ⟨ps, hps⟩ : ∃ ps, ps = out[io].2.parts := ⟨_, rfl⟩
        rw [← hps] at c1 c2
        have hcs1 : ∀ u ∈ cs, u.oneCell' = true := by
          intro u hu
          obtain ⟨k, hk, rfl⟩ := List.getElem_of_mem hu
          obtain ⟨a, c, e⟩ := (c3 k (by rw [← hps]; omega) hk).slice
          rw [e]; rfl
        obtain ⟨hd1, hd2⟩ := hdk
        rw [← hps] at hd1 hd2
        have HC3 := Lib.hid (show ∀ k (h : k < ps.length) (h2 : k < cs.length), CellsRow w base cs[k] ps[k].cells from fun k h h2 => by subst hps; exact c3 k h h2)
        have HD2 := Lib.hid hd2
        obtain ⟨pa0, pc0, e0⟩ := row_slice c2
        have HPC := Lib.hid (parts_Clone base us[io] ps.length (partCells ps cs) wo c2 (partCells_one ps cs hcs1) (by omega))
        have HS := Lib.hid hS
        have HPS := Lib.hid hps
        have HC1 := Lib.hid c1
        have hir : (io : Int) < (out.length : Int) := by omega
        rw [e0] at hc0 HPC
        clear hS e0 hsl hbl hrw e5 c1 c2 c3 hps hcs1 hd2
        go_wp2_with fail
        refine (by exact HPC.out : Calls _ _ _ _ _).mono ?_
        rintro e w2 ⟨pv, rfl, hpr, hb2⟩
        obtain ⟨pa, pc, rfl⟩ := row_slice hpr
        have hc2 := cell_keepV hc0 hgl hb2
        have hf2 := (hb2.frozen (p := ⟨g, io * 7 + 3, none⟩) hgl).trans hf0
        have hgl2 := Nat.lt_of_lt_of_le hgl hb2.size
        have HM := Lib.hid (HS.out.open1 hlt hb2 hpr HC1.out)
        clear hpr hb2 hc0 hf0
        go_upto_region 6 with fail
        generalize w2.setCell ⟨g, io * 7 + 3, none⟩ (.slice pa ps.length pc) = w3 at *
        have hm0 : w3.cell? ⟨g, io * 7 + 3, none⟩ = some (.slice pa ps.length pc) := by
          have hr := HM.out.row
          have hl3 := HM.out.len
          rw [hr.cellAt _ (by omega), (fdCells_at out _ io hlt (by omega) hl3).2.2.2.1]
          have := HM.out.here
          rw [List.getElem?_eq_getElem (by omega)] at this
          exact this
        have hm1 := (HM.out.row.lt g rfl).2
        clear hc2 hf2 hgl2
        go_wp2_with fail
        go_loopg [28] (ps.length) (fun f x wr => ∃ (k : Nat) (ds : List Value), x = .int .i64 k ∧ k ≤ ps.length ∧ ps.length ≤ k + f ∧ CopM w base g vc out vs (us.set io (.slice pa ps.length pc)) io ps (.slice pa ps.length pc) cs ds k wr)
        case atStart => exact ⟨0, cs, rfl, by omega, by omega, HM.out⟩
        case round =>
          clear hm0 hm1
          obtain ⟨k, ds, rfl, hk1, hk2, hM⟩ := hrel
          have hHM := Lib.hid hM
          by_cases hklt : k < ps.length
          · have hpl := hM.plen
            have hpart := hM.part
            have hrow := hM.row
            have hl3 := hM.len
            obtain ⟨gp, cp, e6, gpl, _, hcp⟩ := row_read hpart (by omega)
            cases e6
            have e8 : ds[k]'(by omega) = cs[k]'(by have := HC1.out; omega) := by
              have := hM.pleft k (Nat.le_refl _)
              rw [List.getElem?_eq_getElem (by omega), List.getElem?_eq_getElem (by have := HC1.out; omega)] at this
              exact Option.some.inj this
            have hcell : CellsRow wr base ds[k] ps[k].cells := by
              rw [e8]
              exact ownsRow_keeps (HC3.out k hklt (by have := HC1.out; omega)) (Keeps.of_fresh hM.below (fun _ => False)) (fun _ _ e => e)
            have d0 : wr.cell? ⟨g, io * 7 + 3, none⟩ = some (.slice (some ⟨gp, 0, none⟩) ps.length pc) := by
              rw [hrow.cellAt _ (by omega), (fdCells_at out _ io hlt (by omega) hl3).2.2.2.1]
              have := hM.here
              rw [List.getElem?_eq_getElem (by omega)] at this
              exact this
            have d1 : wr.cell? ⟨gp, k * 3 + 1, none⟩ = some ds[k] := (hcp _ (by omega)).trans (partCells_at ps ds k hklt (by omega) hpl).2.1
            have df := fds_frozen hpart (k * 3 + 1)
            have gl := (hrow.lt g rfl).2
            have hkr : (k : Int) < (ps.length : Int) := by omega
            obtain ⟨ca, cc, e7⟩ := hcell.slice
            rw [e7] at d1 hcell
            have hcl := HD2.out ps[k] (List.getElem_mem hklt)
            have HPK := Lib.hid (show ∀ (w7 : World) (cv : Value), Below wr.heap.size wr w7 → CellsRow w7 wr.heap.size cv ps[k].cells → CopM w base g vc out vs (us.set io (.slice (some ⟨gp, 0, none⟩) ps.length pc)) io ps (.slice (some ⟨gp, 0, none⟩) ps.length pc) cs (ds.set k cv) (k + 1) (w7.setCell ⟨gp, k * 3 + 1, none⟩ cv) from fun w7 cv h1 h2 => hM.step hklt h1 h2)
            unfold CellsRow at hcell HPK
            generalize ps[k].cells = pk at *
            have HCC := Lib.hid (fun (wx : World) (hx : wx.ownsRow base 72 2 (.slice ca pk.length cc) pk.length (cellCells pk)) => cells_Clone base (.slice ca pk.length cc) pk.length (cellCells pk) wx hx (cellCells_one pk) (by omega))
            have HCE := Lib.hid hcell
            clear hM e7 e8 hpl hpart hrow hl3 hcell hcp
            go_upto_region 9 with fail
            go_region_with (go_at_call 75; refine (HCC.out _ (by exact HCE.out.drew)).mono ?_; rintro e w7 ⟨rv, rfl, hown, hb8⟩; obtain ⟨rva, rvc, hrv⟩ := row_slice hown; subst hrv; have hb9 : Below wr.heap.size wr w7 := (Below.refl wr.heap.size wr).drew.trans hb8; have kx := cell_keepV d0 gl hb9; have kd := cell_keepV d1 gpl hb9; have kz := (hb9.frozen (p := ⟨gp, k * 3 + 1, none⟩) gpl).trans df; have kl := Nat.lt_of_lt_of_le gpl hb9.size; have kgl := Nat.lt_of_lt_of_le gl hb9.size)
            all_goals
              have HNX := Lib.hid (HPK.out _ _ hb9 hown)
              clear hb8 hown hb9
              go_wp2_with fail
              go_roundg (gk - 1)
              case measure => omega
              case rel => exact ⟨k + 1, _, by go_num, by omega, by omega, HNX.out⟩
          · obtain rfl : k = ps.length := by omega
            have HS2 := Lib.hid (hM.close1 hlt HPS.out.symm)
            clear hM hHM
            go_wp2_with fail
            go_roundg (go - 1)
            case measure => omega
            case rel => exact ⟨io + 1, _, by go_num, by omega, by omega, HS2.out⟩
      · obtain rfl : io = out.length := by omega
        have HF := Lib.hid (show FdsRow wo w.heap.size (.slice (some ⟨g, 0, none⟩) out.length vc) out from ⟨us, hS.len, hS.row, fun j hj hj2 => hS.done j hj hj2 hj⟩)
        have HB := Lib.hid hS.below
        clear hS
        go_wp2_with fail
        go_ret
        exact ⟨_, rfl, HF.out, HB.out⟩
end Go.Proofs.YtofhcgbihonckaaGreat

namespace Go.Proofs.YtofhcgbihonckaaGreat
open Go.RowKit

noncomputable def ldIf (n : Nat) : Code := (ifOf (Tryz.f72.body.getD .skip) n).getD .skip
set_option maxHeartbeats 4000000 in
set_option maxRecDepth 100000 in
theorem ld_no {Q : Exit → Act → World → Prop} (A : Nat → Prop) (fuel lb mb base pb qb eb before file : Nat) (fv ov rv dv outv mv0 pv : Value) (F : List FileT) (opn2 : List Nat) (ord : List ByteArray) (giv : GivT) (D : List DefT) (out : List FdT) (d : DefT) (rest : List FdT) (w0 w : World) (hrec : Hid (LoadC fuel)) (hF : F.length ≤ 8) (hT : Hid (∀ f ∈ F, f.text.size ≤ maxLen ∧ f.name.size ≤ maxLen)) (hfu : F.length < opn2.length + fuel) (hb1 : 0 < base) (hbs : base ≤ w0.heap.size) (hlay : Hid (Lay0 w0)) (hA : Hid (∀ g, A g → g < w0.heap.size)) (hov : Hid (∀ i, LdS lb mb ov rv i → base ≤ i)) (hk : d.kind ≠ 6) {u3 u4 u5 u6 u8 u9 u11 u13 u16 u17 u18 u19 u20 u21 u22 u23 u24 u25 u26 u27 u28 u29 u30 u31 u32 u33 u34 u35 u36 u37 u38 u39 u40 u41 u42 u43 u44 u45 u46 u47 u48 u49 u50 u51 u52 u53 u54 u55 u56 u57 u58 u59 u60 u61 u62 u63 u64 u65 u66 u67 u68 u69 u70 u71 u72 u73 u74 u76 u77 u78 u79 u80 u81 u82 u83 u84 u85 u86 u87 u88 u89 u90 u91 u92 u93 u94 u95 u96 u97 u98 u99 u100 u101 u102 u103 u104 u105 u106 u107 u108 u109 u110 u111 u112 u113 u114 u115 u116 u117 u118 u119 u120 u121 u122 u123 u124 u125 u126 u127 u128 u129 u130 u131 u132 u133 u134 u135 u136 u137 u138 u139 u140 u141 u142 u143 u144 u145 u146 u147 u148 u149 u150 u151 u152 u153 u154 u155 u156 u157 u158 : Value}
    (hW : Hid (LdW A lb mb base pb qb fv ov rv dv F opn2 (file : Int) D before w0 outv ord giv out w)) (hE : Hid (Holds w eb #[.int .i64 d.kind, .string d.label, .string d.name, pv, .int .i64 (file : Int), .int .i64 d.line, .int .i64 d.col] 34)) (hM : Hid (FdsRow w base mv0 [((file : Int), d)])) (hMn : Hid (∀ g, mv0.ownBlock = some g → outv.ownBlock ≠ some g))
    (hQ : Hid (∀ (x11 x15 x16 x17 x18 x75 x76 x77 x78 x79 x80 x81 x84 x85 x86 x87 x88 x89 x92 x93 x94 x95 x96 x97 x98 x99 x100 x101 x102 x103 x104 x105 x106 x107 x108 x109 x110 x111 x112 x113 x114 x115 x118 : Value) (wx : World) (ord' : List ByteArray) (giv' : GivT) (m : List FdT), LdW A lb mb base pb qb fv ov rv dv F opn2 (file : Int) D before w0 outv ord' giv' out wx → FdsRow wx base x15 m → (∀ g, x15.ownBlock = some g → outv.ownBlock ≠ some g) → m.length ≤ 6000 → ldLoop (ldT F fuel opn2) F opn2 before (((file : Int), d) :: rest) ord giv out = (if roomT before out < m.length then .error (posD (m.getD (roomT before out) zeroD), 3) else ldLoop (ldT F fuel opn2) F opn2 before rest ord' giv' (out ++ m)) → Q .normal ⟨#[.pointer (some ⟨lb, 0, none⟩), .int .i64 (file : Int), .int .i64 (before : Int), u3, u4, u5, u6, .pointer (some ⟨pb, 0, none⟩), u8, u9, .pointer (some ⟨qb, 0, none⟩), x11, outv, u13, .pointer (some ⟨eb, 0, none⟩), x15, x16, x17, x18, u19, u20, u21, u22, u23, u24, u25, u26, u27, u28, u29, u30, u31, u32, u33, u34, u35, u36, u37, u38, u39, u40, u41, u42, u43, u44, u45, u46, u47, u48, u49, u50, u51, u52, u53, u54, u55, u56, u57, u58, u59, u60, u61, u62, u63, u64, u65, u66, u67, u68, u69, u70, u71, u72, u73, u74, x75, x76, x77, x78, x79, x80, x81, u82, u83, x84, x85, x86, x87, x88, x89, u90, u91, x92, x93, x94, x95, x96, x97, x98, x99, x100, x101, x102, x103, x104, x105, x106, x107, x108, x109, x110, x111, x112, x113, x114, x115, u116, u117, x118, u119, u120, u121, u122, u123, u124, u125, u126, u127, u128, u129, u130, u131, u132, u133, u134, u135, u136, u137, u138, u139, u140, u141, u142, u143, u144, u145, u146, u147, u148, u149, u150, u151, u152, u153, u154, u155, u156, u157, u158], []⟩ wx))
    (hQE : Hid (∀ (c : Array Value) (wx : World) (p : PosT) (er : Int), c[6]? = some (.slice none 0 0) → c[7]? = some (.pointer (some ⟨pb, 0, none⟩)) → c[8]? = some (.int .i64 er) → Holds wx pb #[.int .i64 p.1, .int .i64 p.2.1, .int .i64 p.2.2] 27 → Keeps (LdS lb mb ov rv) w0 wx → ldLoop (ldT F fuel opn2) F opn2 before (((file : Int), d) :: rest) ord giv out = .error (p, er) → Q .ret ⟨c, []⟩ wx)) :
    (ldIf 75).wp Tryz.prog Q ⟨#[.pointer (some ⟨lb, 0, none⟩), .int .i64 (file : Int), .int .i64 (before : Int), u3, u4, u5, u6, .pointer (some ⟨pb, 0, none⟩), u8, u9, .pointer (some ⟨qb, 0, none⟩), u11, outv, u13, .pointer (some ⟨eb, 0, none⟩), mv0, u16, u17, u18, u19, u20, u21, u22, u23, u24, u25, u26, u27, u28, u29, u30, u31, u32, u33, u34, u35, u36, u37, u38, u39, u40, u41, u42, u43, u44, u45, u46, u47, u48, u49, u50, u51, u52, u53, u54, u55, u56, u57, u58, u59, u60, u61, u62, u63, u64, u65, u66, u67, u68, u69, u70, u71, u72, u73, u74, .bool (d.kind == 6), u76, u77, u78, u79, u80, u81, u82, u83, u84, u85, u86, u87, u88, u89, u90, u91, u92, u93, u94, u95, u96, u97, u98, u99, u100, u101, u102, u103, u104, u105, u106, u107, u108, u109, u110, u111, u112, u113, u114, u115, u116, u117, u118, u119, u120, u121, u122, u123, u124, u125, u126, u127, u128, u129, u130, u131, u132, u133, u134, u135, u136, u137, u138, u139, u140, u141, u142, u143, u144, u145, u146, u147, u148, u149, u150, u151, u152, u153, u154, u155, u156, u157, u158], []⟩ w := by
  simp only [ldIf, ifOf, Tryz.f72, Option.getD_some, reduceIte, Nat.reduceEqDiff]
  have hkb : (d.kind == 6) = false := by simpa using hk
  have heq := Lib.hid (loop_def (go := ldT F fuel opn2) (F := F) (opn := opn2) (before := before) (d := ((file : Int), d)) (r := rest) (ord := ord) (giv := giv) (out := out) hk)
  clear hk
  go_wp2_with fail
  exact hQ.out _ _ _ _ _ _ _ _ _ _ _ _ _ _ _ _ _ _ _ _ _ _ _ _ _ _ _ _ _ _ _ _ _ _ _ _ _ _ _ _ _ _ _ _ ord giv [((file : Int), d)] hW.out hM.out hMn.out (by simp) heq.out
set_option maxHeartbeats 4000000 in
set_option maxRecDepth 100000 in
theorem ld_none {Q : Exit → Act → World → Prop} (A : Nat → Prop) (fuel lb mb base pb qb eb before file : Nat) (fv ov rv dv outv mv0 pv : Value) (F : List FileT) (opn2 : List Nat) (ord : List ByteArray) (giv : GivT) (D : List DefT) (out : List FdT) (d : DefT) (rest : List FdT) (w0 w : World) (hrec : Hid (LoadC fuel)) (hF : F.length ≤ 8) (hT : Hid (∀ f ∈ F, f.text.size ≤ maxLen ∧ f.name.size ≤ maxLen)) (hfu : F.length < opn2.length + fuel) (hb1 : 0 < base) (hbs : base ≤ w0.heap.size) (hlay : Hid (Lay0 w0)) (hA : Hid (∀ g, A g → g < w0.heap.size)) (hov : Hid (∀ i, LdS lb mb ov rv i → base ≤ i)) (hk : d.kind = 6) (hf : findF F d.name = none) {u3 u4 u5 u6 u8 u9 u11 u13 u16 u17 u18 u19 u20 u21 u22 u23 u24 u25 u26 u27 u28 u29 u30 u31 u32 u33 u34 u35 u36 u37 u38 u39 u40 u41 u42 u43 u44 u45 u46 u47 u48 u49 u50 u51 u52 u53 u54 u55 u56 u57 u58 u59 u60 u61 u62 u63 u64 u65 u66 u67 u68 u69 u70 u71 u72 u73 u74 u76 u77 u78 u79 u80 u81 u82 u83 u84 u85 u86 u87 u88 u89 u90 u91 u92 u93 u94 u95 u96 u97 u98 u99 u100 u101 u102 u103 u104 u105 u106 u107 u108 u109 u110 u111 u112 u113 u114 u115 u116 u117 u118 u119 u120 u121 u122 u123 u124 u125 u126 u127 u128 u129 u130 u131 u132 u133 u134 u135 u136 u137 u138 u139 u140 u141 u142 u143 u144 u145 u146 u147 u148 u149 u150 u151 u152 u153 u154 u155 u156 u157 u158 : Value}
    (hW : Hid (LdW A lb mb base pb qb fv ov rv dv F opn2 (file : Int) D before w0 outv ord giv out w)) (hE : Hid (Holds w eb #[.int .i64 d.kind, .string d.label, .string d.name, pv, .int .i64 (file : Int), .int .i64 d.line, .int .i64 d.col] 34)) (hM : Hid (FdsRow w base mv0 [((file : Int), d)])) (hMn : Hid (∀ g, mv0.ownBlock = some g → outv.ownBlock ≠ some g))
    (hQ : Hid (∀ (x11 x15 x16 x17 x18 x75 x76 x77 x78 x79 x80 x81 x84 x85 x86 x87 x88 x89 x92 x93 x94 x95 x96 x97 x98 x99 x100 x101 x102 x103 x104 x105 x106 x107 x108 x109 x110 x111 x112 x113 x114 x115 x118 : Value) (wx : World) (ord' : List ByteArray) (giv' : GivT) (m : List FdT), LdW A lb mb base pb qb fv ov rv dv F opn2 (file : Int) D before w0 outv ord' giv' out wx → FdsRow wx base x15 m → (∀ g, x15.ownBlock = some g → outv.ownBlock ≠ some g) → m.length ≤ 6000 → ldLoop (ldT F fuel opn2) F opn2 before (((file : Int), d) :: rest) ord giv out = (if roomT before out < m.length then .error (posD (m.getD (roomT before out) zeroD), 3) else ldLoop (ldT F fuel opn2) F opn2 before rest ord' giv' (out ++ m)) → Q .normal ⟨#[.pointer (some ⟨lb, 0, none⟩), .int .i64 (file : Int), .int .i64 (before : Int), u3, u4, u5, u6, .pointer (some ⟨pb, 0, none⟩), u8, u9, .pointer (some ⟨qb, 0, none⟩), x11, outv, u13, .pointer (some ⟨eb, 0, none⟩), x15, x16, x17, x18, u19, u20, u21, u22, u23, u24, u25, u26, u27, u28, u29, u30, u31, u32, u33, u34, u35, u36, u37, u38, u39, u40, u41, u42, u43, u44, u45, u46, u47, u48, u49, u50, u51, u52, u53, u54, u55, u56, u57, u58, u59, u60, u61, u62, u63, u64, u65, u66, u67, u68, u69, u70, u71, u72, u73, u74, x75, x76, x77, x78, x79, x80, x81, u82, u83, x84, x85, x86, x87, x88, x89, u90, u91, x92, x93, x94, x95, x96, x97, x98, x99, x100, x101, x102, x103, x104, x105, x106, x107, x108, x109, x110, x111, x112, x113, x114, x115, u116, u117, x118, u119, u120, u121, u122, u123, u124, u125, u126, u127, u128, u129, u130, u131, u132, u133, u134, u135, u136, u137, u138, u139, u140, u141, u142, u143, u144, u145, u146, u147, u148, u149, u150, u151, u152, u153, u154, u155, u156, u157, u158], []⟩ wx))
    (hQE : Hid (∀ (c : Array Value) (wx : World) (p : PosT) (er : Int), c[6]? = some (.slice none 0 0) → c[7]? = some (.pointer (some ⟨pb, 0, none⟩)) → c[8]? = some (.int .i64 er) → Holds wx pb #[.int .i64 p.1, .int .i64 p.2.1, .int .i64 p.2.2] 27 → Keeps (LdS lb mb ov rv) w0 wx → ldLoop (ldT F fuel opn2) F opn2 before (((file : Int), d) :: rest) ord giv out = .error (p, er) → Q .ret ⟨c, []⟩ wx)) :
    (ldIf 75).wp Tryz.prog Q ⟨#[.pointer (some ⟨lb, 0, none⟩), .int .i64 (file : Int), .int .i64 (before : Int), u3, u4, u5, u6, .pointer (some ⟨pb, 0, none⟩), u8, u9, .pointer (some ⟨qb, 0, none⟩), u11, outv, u13, .pointer (some ⟨eb, 0, none⟩), mv0, u16, u17, u18, u19, u20, u21, u22, u23, u24, u25, u26, u27, u28, u29, u30, u31, u32, u33, u34, u35, u36, u37, u38, u39, u40, u41, u42, u43, u44, u45, u46, u47, u48, u49, u50, u51, u52, u53, u54, u55, u56, u57, u58, u59, u60, u61, u62, u63, u64, u65, u66, u67, u68, u69, u70, u71, u72, u73, u74, .bool (d.kind == 6), u76, u77, u78, u79, u80, u81, u82, u83, u84, u85, u86, u87, u88, u89, u90, u91, u92, u93, u94, u95, u96, u97, u98, u99, u100, u101, u102, u103, u104, u105, u106, u107, u108, u109, u110, u111, u112, u113, u114, u115, u116, u117, u118, u119, u120, u121, u122, u123, u124, u125, u126, u127, u128, u129, u130, u131, u132, u133, u134, u135, u136, u137, u138, u139, u140, u141, u142, u143, u144, u145, u146, u147, u148, u149, u150, u151, u152, u153, u154, u155, u156, u157, u158], []⟩ w := by
  have hfi : findI F d.name = -1 := by unfold findI; rw [hf]
  have heq := Lib.hid (loop_none (go := ldT F fuel opn2) (F := F) (opn := opn2) (before := before) (d := ((file : Int), d)) (r := rest) (ord := ord) (giv := giv) (out := out) hk hf)
  clear hf
  simp only [ldIf, ifOf, Tryz.f72, Option.getD_some, reduceIte, Nat.reduceEqDiff]
  have hkb : (d.kind == 6) = true := by simpa using hk
  obtain ⟨ov', rv', hL, hT1, hT2⟩ := hW.out.ld
  have hfind := inc_find lb mb fv ov' rv' F d.name w hL.holds hL.files (by omega)
  rw [hfi] at hfind
  have HFI := Lib.hid hfind
  obtain ⟨-, -, a2, -⟩ := seven_cells hE.out
  have ael := hE.out.lt
  clear hfind hk
  go_wp2_with fail
  refine (by exact HFI.out : Calls _ _ _ _ _).mono ?_
  rintro e w1 ⟨rfl, hb1'⟩
  have HW1 := Lib.hid (hW.out.new1 hb1')
  have HL1 := Lib.hid (hL.new hb1')
  have HE1 := Lib.hid (hE.out.keeps (Keeps.of_fresh hb1' (fun _ => False)) (fun e => e))
  have HM1 := Lib.hid (hM.out.new hb1')
  clear hL hb1' a2 ael
  have hP := HW1.out.pos
  obtain ⟨b0, b1, b2, g0, g1, g2, gl⟩ := three hP
  obtain ⟨-, -, -, -, a4, a5, a6⟩ := seven_cells HE1.out
  have ael := HE1.out.lt
  have hfin := Lib.hid (((hP.set 0 (.int .i64 (file : Int))).set 1 (.int .i64 d.line)).set 2 (.int .i64 d.col)).drew
  have hkf := Lib.hid ((((HW1.out.keeps).setCell (p := ⟨pb, 0, none⟩) (.inl HW1.out.low.1) (.int .i64 (file : Int))).setCell (p := ⟨pb, 1, none⟩) (.inl HW1.out.low.1) (.int .i64 d.line)).setCell (p := ⟨pb, 2, none⟩) (.inl HW1.out.low.1) (.int .i64 d.col)).drew
  clear hP
  go_wp2_with fail
  go_region
  all_goals
    go_wp2_with fail
    exact hQE.out _ _ ((file : Int), d.line, d.col) 4 rfl rfl rfl (by exact hfin.out) (by exact hkf.out) heq.out
set_option maxHeartbeats 4000000 in
set_option maxRecDepth 100000 in
theorem ld_circle {Q : Exit → Act → World → Prop} (A : Nat → Prop) (fuel lb mb base pb qb eb before file : Nat) (fv ov rv dv outv mv0 pv : Value) (F : List FileT) (opn2 : List Nat) (ord : List ByteArray) (giv : GivT) (D : List DefT) (out : List FdT) (d : DefT) (rest : List FdT) (w0 w : World) (hrec : Hid (LoadC fuel)) (hF : F.length ≤ 8) (hT : Hid (∀ f ∈ F, f.text.size ≤ maxLen ∧ f.name.size ≤ maxLen)) (hfu : F.length < opn2.length + fuel) (hb1 : 0 < base) (hbs : base ≤ w0.heap.size) (hlay : Hid (Lay0 w0)) (hA : Hid (∀ g, A g → g < w0.heap.size)) (hov : Hid (∀ i, LdS lb mb ov rv i → base ≤ i)) (hk : d.kind = 6) (k : Nat) (hf : Hid (findF F d.name = some k)) (hc : opn2.contains k = true) {u3 u4 u5 u6 u8 u9 u11 u13 u16 u17 u18 u19 u20 u21 u22 u23 u24 u25 u26 u27 u28 u29 u30 u31 u32 u33 u34 u35 u36 u37 u38 u39 u40 u41 u42 u43 u44 u45 u46 u47 u48 u49 u50 u51 u52 u53 u54 u55 u56 u57 u58 u59 u60 u61 u62 u63 u64 u65 u66 u67 u68 u69 u70 u71 u72 u73 u74 u76 u77 u78 u79 u80 u81 u82 u83 u84 u85 u86 u87 u88 u89 u90 u91 u92 u93 u94 u95 u96 u97 u98 u99 u100 u101 u102 u103 u104 u105 u106 u107 u108 u109 u110 u111 u112 u113 u114 u115 u116 u117 u118 u119 u120 u121 u122 u123 u124 u125 u126 u127 u128 u129 u130 u131 u132 u133 u134 u135 u136 u137 u138 u139 u140 u141 u142 u143 u144 u145 u146 u147 u148 u149 u150 u151 u152 u153 u154 u155 u156 u157 u158 : Value}
    (hW : Hid (LdW A lb mb base pb qb fv ov rv dv F opn2 (file : Int) D before w0 outv ord giv out w)) (hE : Hid (Holds w eb #[.int .i64 d.kind, .string d.label, .string d.name, pv, .int .i64 (file : Int), .int .i64 d.line, .int .i64 d.col] 34)) (hM : Hid (FdsRow w base mv0 [((file : Int), d)])) (hMn : Hid (∀ g, mv0.ownBlock = some g → outv.ownBlock ≠ some g))
    (hQ : Hid (∀ (x11 x15 x16 x17 x18 x75 x76 x77 x78 x79 x80 x81 x84 x85 x86 x87 x88 x89 x92 x93 x94 x95 x96 x97 x98 x99 x100 x101 x102 x103 x104 x105 x106 x107 x108 x109 x110 x111 x112 x113 x114 x115 x118 : Value) (wx : World) (ord' : List ByteArray) (giv' : GivT) (m : List FdT), LdW A lb mb base pb qb fv ov rv dv F opn2 (file : Int) D before w0 outv ord' giv' out wx → FdsRow wx base x15 m → (∀ g, x15.ownBlock = some g → outv.ownBlock ≠ some g) → m.length ≤ 6000 → ldLoop (ldT F fuel opn2) F opn2 before (((file : Int), d) :: rest) ord giv out = (if roomT before out < m.length then .error (posD (m.getD (roomT before out) zeroD), 3) else ldLoop (ldT F fuel opn2) F opn2 before rest ord' giv' (out ++ m)) → Q .normal ⟨#[.pointer (some ⟨lb, 0, none⟩), .int .i64 (file : Int), .int .i64 (before : Int), u3, u4, u5, u6, .pointer (some ⟨pb, 0, none⟩), u8, u9, .pointer (some ⟨qb, 0, none⟩), x11, outv, u13, .pointer (some ⟨eb, 0, none⟩), x15, x16, x17, x18, u19, u20, u21, u22, u23, u24, u25, u26, u27, u28, u29, u30, u31, u32, u33, u34, u35, u36, u37, u38, u39, u40, u41, u42, u43, u44, u45, u46, u47, u48, u49, u50, u51, u52, u53, u54, u55, u56, u57, u58, u59, u60, u61, u62, u63, u64, u65, u66, u67, u68, u69, u70, u71, u72, u73, u74, x75, x76, x77, x78, x79, x80, x81, u82, u83, x84, x85, x86, x87, x88, x89, u90, u91, x92, x93, x94, x95, x96, x97, x98, x99, x100, x101, x102, x103, x104, x105, x106, x107, x108, x109, x110, x111, x112, x113, x114, x115, u116, u117, x118, u119, u120, u121, u122, u123, u124, u125, u126, u127, u128, u129, u130, u131, u132, u133, u134, u135, u136, u137, u138, u139, u140, u141, u142, u143, u144, u145, u146, u147, u148, u149, u150, u151, u152, u153, u154, u155, u156, u157, u158], []⟩ wx))
    (hQE : Hid (∀ (c : Array Value) (wx : World) (p : PosT) (er : Int), c[6]? = some (.slice none 0 0) → c[7]? = some (.pointer (some ⟨pb, 0, none⟩)) → c[8]? = some (.int .i64 er) → Holds wx pb #[.int .i64 p.1, .int .i64 p.2.1, .int .i64 p.2.2] 27 → Keeps (LdS lb mb ov rv) w0 wx → ldLoop (ldT F fuel opn2) F opn2 before (((file : Int), d) :: rest) ord giv out = .error (p, er) → Q .ret ⟨c, []⟩ wx)) :
    (ldIf 75).wp Tryz.prog Q ⟨#[.pointer (some ⟨lb, 0, none⟩), .int .i64 (file : Int), .int .i64 (before : Int), u3, u4, u5, u6, .pointer (some ⟨pb, 0, none⟩), u8, u9, .pointer (some ⟨qb, 0, none⟩), u11, outv, u13, .pointer (some ⟨eb, 0, none⟩), mv0, u16, u17, u18, u19, u20, u21, u22, u23, u24, u25, u26, u27, u28, u29, u30, u31, u32, u33, u34, u35, u36, u37, u38, u39, u40, u41, u42, u43, u44, u45, u46, u47, u48, u49, u50, u51, u52, u53, u54, u55, u56, u57, u58, u59, u60, u61, u62, u63, u64, u65, u66, u67, u68, u69, u70, u71, u72, u73, u74, .bool (d.kind == 6), u76, u77, u78, u79, u80, u81, u82, u83, u84, u85, u86, u87, u88, u89, u90, u91, u92, u93, u94, u95, u96, u97, u98, u99, u100, u101, u102, u103, u104, u105, u106, u107, u108, u109, u110, u111, u112, u113, u114, u115, u116, u117, u118, u119, u120, u121, u122, u123, u124, u125, u126, u127, u128, u129, u130, u131, u132, u133, u134, u135, u136, u137, u138, u139, u140, u141, u142, u143, u144, u145, u146, u147, u148, u149, u150, u151, u152, u153, u154, u155, u156, u157, u158], []⟩ w := by
  have hfi : findI F d.name = (k : Int) := by unfold findI; rw [hf.out]
  have heq := Lib.hid (loop_circle (go := ldT F fuel opn2) (F := F) (opn := opn2) (before := before) (d := ((file : Int), d)) (r := rest) (ord := ord) (giv := giv) (out := out) hk hf.out hc)
  simp only [ldIf, ifOf, Tryz.f72, Option.getD_some, reduceIte, Nat.reduceEqDiff]
  have hkb : (d.kind == 6) = true := by simpa using hk
  obtain ⟨ov', rv', hL, hT1, hT2⟩ := hW.out.ld
  have hfind := inc_find lb mb fv ov' rv' F d.name w hL.holds hL.files (by omega)
  rw [hfi] at hfind
  have HFI := Lib.hid hfind
  obtain ⟨-, -, a2, -⟩ := seven_cells hE.out
  have ael := hE.out.lt
  clear hfind hk
  go_wp2_with fail
  refine (by exact HFI.out : Calls _ _ _ _ _).mono ?_
  rintro e w1 ⟨rfl, hb1'⟩
  have HW1 := Lib.hid (hW.out.new1 hb1')
  have HL1 := Lib.hid (hL.new hb1')
  have HE1 := Lib.hid (hE.out.keeps (Keeps.of_fresh hb1' (fun _ => False)) (fun e => e))
  have HM1 := Lib.hid (hM.out.new hb1')
  clear hL hb1' a2 ael
  have hct := ints_Contains ov' opn2 k w1 (nats_row HL1.out.opn) (by have := HW1.out.ok.short; omega)
  rw [hc] at hct
  have HC := Lib.hid hct
  obtain ⟨oa, oc, rfl⟩ := row_slice HL1.out.opn
  obtain ⟨l0, l1, l2, l3, lf0, lf1, lf2, lf3, ll⟩ : w1.cell? ⟨lb, 0, none⟩ = some fv ∧ w1.cell? ⟨lb, 1, none⟩ = some (.map (some mb)) ∧ w1.cell? ⟨lb, 2, none⟩ = some (.slice oa opn2.length oc) ∧ w1.cell? ⟨lb, 3, none⟩ = some rv' ∧ w1.frozen? ⟨lb, 0, none⟩ = false ∧ w1.frozen? ⟨lb, 1, none⟩ = false ∧ w1.frozen? ⟨lb, 2, none⟩ = false ∧ w1.frozen? ⟨lb, 3, none⟩ = false ∧ lb < w1.heap.size := ⟨HL1.out.holds.cell 0, HL1.out.holds.cell 1, HL1.out.holds.cell 2, HL1.out.holds.cell 3, HL1.out.holds.free 0, HL1.out.holds.free 1, HL1.out.holds.free 2, HL1.out.holds.free 3, HL1.out.holds.lt⟩
  have hkl : k < F.length := findF_lt hf.out
  clear hct
  go_wp2_with fail
  refine (by exact HC.out : Calls _ _ _ _ _).mono ?_
  rintro e w2 ⟨rfl, rfl⟩
  have hP := HW1.out.pos
  obtain ⟨b0, b1, b2, g0, g1, g2, gl⟩ := three hP
  obtain ⟨-, -, -, -, a4, a5, a6⟩ := seven_cells HE1.out
  have ael := HE1.out.lt
  have hfin := Lib.hid (((hP.set 0 (.int .i64 (file : Int))).set 1 (.int .i64 d.line)).set 2 (.int .i64 d.col)).drew
  have hkf := Lib.hid ((((HW1.out.keeps).setCell (p := ⟨pb, 0, none⟩) (.inl HW1.out.low.1) (.int .i64 (file : Int))).setCell (p := ⟨pb, 1, none⟩) (.inl HW1.out.low.1) (.int .i64 d.line)).setCell (p := ⟨pb, 2, none⟩) (.inl HW1.out.low.1) (.int .i64 d.col)).drew
  clear hP
  go_wp2_with fail
  go_region
  all_goals
    go_wp2_with fail
    exact hQE.out _ _ ((file : Int), d.line, d.col) 10 rfl rfl rfl (by exact hfin.out) (by exact hkf.out) heq.out
set_option maxHeartbeats 4000000 in
set_option maxRecDepth 100000 in
theorem ld_known {Q : Exit → Act → World → Prop} (A : Nat → Prop) (fuel lb mb base pb qb eb before file : Nat) (fv ov rv dv outv mv0 pv : Value) (F : List FileT) (opn2 : List Nat) (ord : List ByteArray) (giv : GivT) (D : List DefT) (out : List FdT) (d : DefT) (rest : List FdT) (w0 w : World) (hrec : Hid (LoadC fuel)) (hF : F.length ≤ 8) (hT : Hid (∀ f ∈ F, f.text.size ≤ maxLen ∧ f.name.size ≤ maxLen)) (hfu : F.length < opn2.length + fuel) (hb1 : 0 < base) (hbs : base ≤ w0.heap.size) (hlay : Hid (Lay0 w0)) (hA : Hid (∀ g, A g → g < w0.heap.size)) (hov : Hid (∀ i, LdS lb mb ov rv i → base ≤ i)) (hk : d.kind = 6) (k : Nat) (hf : Hid (findF F d.name = some k)) (hc : opn2.contains k = false) (l : List FdT) (hg : Hid (givT giv k = some l)) {u3 u4 u5 u6 u8 u9 u11 u13 u16 u17 u18 u19 u20 u21 u22 u23 u24 u25 u26 u27 u28 u29 u30 u31 u32 u33 u34 u35 u36 u37 u38 u39 u40 u41 u42 u43 u44 u45 u46 u47 u48 u49 u50 u51 u52 u53 u54 u55 u56 u57 u58 u59 u60 u61 u62 u63 u64 u65 u66 u67 u68 u69 u70 u71 u72 u73 u74 u76 u77 u78 u79 u80 u81 u82 u83 u84 u85 u86 u87 u88 u89 u90 u91 u92 u93 u94 u95 u96 u97 u98 u99 u100 u101 u102 u103 u104 u105 u106 u107 u108 u109 u110 u111 u112 u113 u114 u115 u116 u117 u118 u119 u120 u121 u122 u123 u124 u125 u126 u127 u128 u129 u130 u131 u132 u133 u134 u135 u136 u137 u138 u139 u140 u141 u142 u143 u144 u145 u146 u147 u148 u149 u150 u151 u152 u153 u154 u155 u156 u157 u158 : Value}
    (hW : Hid (LdW A lb mb base pb qb fv ov rv dv F opn2 (file : Int) D before w0 outv ord giv out w)) (hE : Hid (Holds w eb #[.int .i64 d.kind, .string d.label, .string d.name, pv, .int .i64 (file : Int), .int .i64 d.line, .int .i64 d.col] 34)) (hM : Hid (FdsRow w base mv0 [((file : Int), d)])) (hMn : Hid (∀ g, mv0.ownBlock = some g → outv.ownBlock ≠ some g))
    (hQ : Hid (∀ (x11 x15 x16 x17 x18 x75 x76 x77 x78 x79 x80 x81 x84 x85 x86 x87 x88 x89 x92 x93 x94 x95 x96 x97 x98 x99 x100 x101 x102 x103 x104 x105 x106 x107 x108 x109 x110 x111 x112 x113 x114 x115 x118 : Value) (wx : World) (ord' : List ByteArray) (giv' : GivT) (m : List FdT), LdW A lb mb base pb qb fv ov rv dv F opn2 (file : Int) D before w0 outv ord' giv' out wx → FdsRow wx base x15 m → (∀ g, x15.ownBlock = some g → outv.ownBlock ≠ some g) → m.length ≤ 6000 → ldLoop (ldT F fuel opn2) F opn2 before (((file : Int), d) :: rest) ord giv out = (if roomT before out < m.length then .error (posD (m.getD (roomT before out) zeroD), 3) else ldLoop (ldT F fuel opn2) F opn2 before rest ord' giv' (out ++ m)) → Q .normal ⟨#[.pointer (some ⟨lb, 0, none⟩), .int .i64 (file : Int), .int .i64 (before : Int), u3, u4, u5, u6, .pointer (some ⟨pb, 0, none⟩), u8, u9, .pointer (some ⟨qb, 0, none⟩), x11, outv, u13, .pointer (some ⟨eb, 0, none⟩), x15, x16, x17, x18, u19, u20, u21, u22, u23, u24, u25, u26, u27, u28, u29, u30, u31, u32, u33, u34, u35, u36, u37, u38, u39, u40, u41, u42, u43, u44, u45, u46, u47, u48, u49, u50, u51, u52, u53, u54, u55, u56, u57, u58, u59, u60, u61, u62, u63, u64, u65, u66, u67, u68, u69, u70, u71, u72, u73, u74, x75, x76, x77, x78, x79, x80, x81, u82, u83, x84, x85, x86, x87, x88, x89, u90, u91, x92, x93, x94, x95, x96, x97, x98, x99, x100, x101, x102, x103, x104, x105, x106, x107, x108, x109, x110, x111, x112, x113, x114, x115, u116, u117, x118, u119, u120, u121, u122, u123, u124, u125, u126, u127, u128, u129, u130, u131, u132, u133, u134, u135, u136, u137, u138, u139, u140, u141, u142, u143, u144, u145, u146, u147, u148, u149, u150, u151, u152, u153, u154, u155, u156, u157, u158], []⟩ wx))
    (hQE : Hid (∀ (c : Array Value) (wx : World) (p : PosT) (er : Int), c[6]? = some (.slice none 0 0) → c[7]? = some (.pointer (some ⟨pb, 0, none⟩)) → c[8]? = some (.int .i64 er) → Holds wx pb #[.int .i64 p.1, .int .i64 p.2.1, .int .i64 p.2.2] 27 → Keeps (LdS lb mb ov rv) w0 wx → ldLoop (ldT F fuel opn2) F opn2 before (((file : Int), d) :: rest) ord giv out = .error (p, er) → Q .ret ⟨c, []⟩ wx)) :
    (ldIf 75).wp Tryz.prog Q ⟨#[.pointer (some ⟨lb, 0, none⟩), .int .i64 (file : Int), .int .i64 (before : Int), u3, u4, u5, u6, .pointer (some ⟨pb, 0, none⟩), u8, u9, .pointer (some ⟨qb, 0, none⟩), u11, outv, u13, .pointer (some ⟨eb, 0, none⟩), mv0, u16, u17, u18, u19, u20, u21, u22, u23, u24, u25, u26, u27, u28, u29, u30, u31, u32, u33, u34, u35, u36, u37, u38, u39, u40, u41, u42, u43, u44, u45, u46, u47, u48, u49, u50, u51, u52, u53, u54, u55, u56, u57, u58, u59, u60, u61, u62, u63, u64, u65, u66, u67, u68, u69, u70, u71, u72, u73, u74, .bool (d.kind == 6), u76, u77, u78, u79, u80, u81, u82, u83, u84, u85, u86, u87, u88, u89, u90, u91, u92, u93, u94, u95, u96, u97, u98, u99, u100, u101, u102, u103, u104, u105, u106, u107, u108, u109, u110, u111, u112, u113, u114, u115, u116, u117, u118, u119, u120, u121, u122, u123, u124, u125, u126, u127, u128, u129, u130, u131, u132, u133, u134, u135, u136, u137, u138, u139, u140, u141, u142, u143, u144, u145, u146, u147, u148, u149, u150, u151, u152, u153, u154, u155, u156, u157, u158], []⟩ w := by
  have hfi : findI F d.name = (k : Int) := by unfold findI; rw [hf.out]
  have heq := Lib.hid (loop_known (go := ldT F fuel opn2) (F := F) (opn := opn2) (before := before) (d := ((file : Int), d)) (r := rest) (ord := ord) (giv := giv) (out := out) hk hf.out hc hg.out)
  simp only [ldIf, ifOf, Tryz.f72, Option.getD_some, reduceIte, Nat.reduceEqDiff]
  have hkb : (d.kind == 6) = true := by simpa using hk
  obtain ⟨ov', rv', hL, hT1, hT2⟩ := hW.out.ld
  have hfind := inc_find lb mb fv ov' rv' F d.name w hL.holds hL.files (by omega)
  rw [hfi] at hfind
  have HFI := Lib.hid hfind
  obtain ⟨-, -, a2, -⟩ := seven_cells hE.out
  have ael := hE.out.lt
  clear hfind hk
  go_wp2_with fail
  refine (by exact HFI.out : Calls _ _ _ _ _).mono ?_
  rintro e w1 ⟨rfl, hb1'⟩
  have HW1 := Lib.hid (hW.out.new1 hb1')
  have HL1 := Lib.hid (hL.new hb1')
  have HE1 := Lib.hid (hE.out.keeps (Keeps.of_fresh hb1' (fun _ => False)) (fun e => e))
  have HM1 := Lib.hid (hM.out.new hb1')
  clear hL hb1' a2 ael
  have hct := ints_Contains ov' opn2 k w1 (nats_row HL1.out.opn) (by have := HW1.out.ok.short; omega)
  rw [hc] at hct
  have HC := Lib.hid hct
  obtain ⟨oa, oc, rfl⟩ := row_slice HL1.out.opn
  obtain ⟨l0, l1, l2, l3, lf0, lf1, lf2, lf3, ll⟩ : w1.cell? ⟨lb, 0, none⟩ = some fv ∧ w1.cell? ⟨lb, 1, none⟩ = some (.map (some mb)) ∧ w1.cell? ⟨lb, 2, none⟩ = some (.slice oa opn2.length oc) ∧ w1.cell? ⟨lb, 3, none⟩ = some rv' ∧ w1.frozen? ⟨lb, 0, none⟩ = false ∧ w1.frozen? ⟨lb, 1, none⟩ = false ∧ w1.frozen? ⟨lb, 2, none⟩ = false ∧ w1.frozen? ⟨lb, 3, none⟩ = false ∧ lb < w1.heap.size := ⟨HL1.out.holds.cell 0, HL1.out.holds.cell 1, HL1.out.holds.cell 2, HL1.out.holds.cell 3, HL1.out.holds.free 0, HL1.out.holds.free 1, HL1.out.holds.free 2, HL1.out.holds.free 3, HL1.out.holds.lt⟩
  have hkl : k < F.length := findF_lt hf.out
  clear hct
  go_wp2_with fail
  refine (by exact HC.out : Calls _ _ _ _ _).mono ?_
  rintro e w2 ⟨rfl, rfl⟩
  obtain ⟨vL, bL, hlk, hcase⟩ := HL1.out.look HW1.out.ok k (by omega)
  have HCASE := Lib.hid hcase
  clear hcase
  obtain ⟨rfl, hmr, hml, hma⟩ : bL = true ∧ FdsRow w1 base vL l ∧ l.length ≤ 6000 ∧ ∀ g, vL.ownBlock = some g → ¬ (A g ∨ outv.ownBlock = some g) := by
    rcases HCASE.out with ⟨e1, _⟩ | ⟨l', e1, e2, e3, e4, e5⟩
    · rw [hg.out] at e1; cases e1
    · rw [hg.out] at e1; cases e1; exact ⟨e2, e3, e4, e5⟩
  have HMR := Lib.hid hmr
  have HMA := Lib.hid hma
  clear HCASE hmr hma
  go_wp2_with fail
  exact hQ.out _ _ _ _ _ _ _ _ _ _ _ _ _ _ _ _ _ _ _ _ _ _ _ _ _ _ _ _ _ _ _ _ _ _ _ _ _ _ _ _ _ _ _ _ ord giv l HW1.out HMR.out (fun g hg e => HMA.out g hg (.inr e)) hml heq.out
end Go.Proofs.YtofhcgbihonckaaGreat

namespace Go.Proofs.YtofhcgbihonckaaGreat
open Go.RowKit

set_option maxHeartbeats 4000000 in
set_option maxRecDepth 100000 in
theorem ld_new {Q : Exit → Act → World → Prop} (A : Nat → Prop) (fuel lb mb base pb qb eb before file : Nat) (fv ov rv dv outv mv0 pv : Value) (F : List FileT) (opn2 : List Nat) (ord : List ByteArray) (giv : GivT) (D : List DefT) (out : List FdT) (d : DefT) (rest : List FdT) (w0 w : World) (hrec : Hid (LoadC fuel)) (hF : F.length ≤ 8) (hT : Hid (∀ f ∈ F, f.text.size ≤ maxLen ∧ f.name.size ≤ maxLen)) (hfu : F.length < opn2.length + fuel) (hb1 : 0 < base) (hbs : base ≤ w0.heap.size) (hlay : Hid (Lay0 w0)) (hA : Hid (∀ g, A g → g < w0.heap.size)) (hov : Hid (∀ i, LdS lb mb ov rv i → base ≤ i)) (hk : d.kind = 6) (k : Nat) (hf : Hid (findF F d.name = some k)) (hc : opn2.contains k = false) (hg : Hid (givT giv k = none)) {u3 u4 u5 u6 u8 u9 u11 u13 u16 u17 u18 u19 u20 u21 u22 u23 u24 u25 u26 u27 u28 u29 u30 u31 u32 u33 u34 u35 u36 u37 u38 u39 u40 u41 u42 u43 u44 u45 u46 u47 u48 u49 u50 u51 u52 u53 u54 u55 u56 u57 u58 u59 u60 u61 u62 u63 u64 u65 u66 u67 u68 u69 u70 u71 u72 u73 u74 u76 u77 u78 u79 u80 u81 u82 u83 u84 u85 u86 u87 u88 u89 u90 u91 u92 u93 u94 u95 u96 u97 u98 u99 u100 u101 u102 u103 u104 u105 u106 u107 u108 u109 u110 u111 u112 u113 u114 u115 u116 u117 u118 u119 u120 u121 u122 u123 u124 u125 u126 u127 u128 u129 u130 u131 u132 u133 u134 u135 u136 u137 u138 u139 u140 u141 u142 u143 u144 u145 u146 u147 u148 u149 u150 u151 u152 u153 u154 u155 u156 u157 u158 : Value}
    (hW : Hid (LdW A lb mb base pb qb fv ov rv dv F opn2 (file : Int) D before w0 outv ord giv out w)) (hE : Hid (Holds w eb #[.int .i64 d.kind, .string d.label, .string d.name, pv, .int .i64 (file : Int), .int .i64 d.line, .int .i64 d.col] 34)) (hM : Hid (FdsRow w base mv0 [((file : Int), d)])) (hMn : Hid (∀ g, mv0.ownBlock = some g → outv.ownBlock ≠ some g))
    (hQ : Hid (∀ (x11 x15 x16 x17 x18 x75 x76 x77 x78 x79 x80 x81 x84 x85 x86 x87 x88 x89 x92 x93 x94 x95 x96 x97 x98 x99 x100 x101 x102 x103 x104 x105 x106 x107 x108 x109 x110 x111 x112 x113 x114 x115 x118 : Value) (wx : World) (ord' : List ByteArray) (giv' : GivT) (m : List FdT), LdW A lb mb base pb qb fv ov rv dv F opn2 (file : Int) D before w0 outv ord' giv' out wx → FdsRow wx base x15 m → (∀ g, x15.ownBlock = some g → outv.ownBlock ≠ some g) → m.length ≤ 6000 → ldLoop (ldT F fuel opn2) F opn2 before (((file : Int), d) :: rest) ord giv out = (if roomT before out < m.length then .error (posD (m.getD (roomT before out) zeroD), 3) else ldLoop (ldT F fuel opn2) F opn2 before rest ord' giv' (out ++ m)) → Q .normal ⟨#[.pointer (some ⟨lb, 0, none⟩), .int .i64 (file : Int), .int .i64 (before : Int), u3, u4, u5, u6, .pointer (some ⟨pb, 0, none⟩), u8, u9, .pointer (some ⟨qb, 0, none⟩), x11, outv, u13, .pointer (some ⟨eb, 0, none⟩), x15, x16, x17, x18, u19, u20, u21, u22, u23, u24, u25, u26, u27, u28, u29, u30, u31, u32, u33, u34, u35, u36, u37, u38, u39, u40, u41, u42, u43, u44, u45, u46, u47, u48, u49, u50, u51, u52, u53, u54, u55, u56, u57, u58, u59, u60, u61, u62, u63, u64, u65, u66, u67, u68, u69, u70, u71, u72, u73, u74, x75, x76, x77, x78, x79, x80, x81, u82, u83, x84, x85, x86, x87, x88, x89, u90, u91, x92, x93, x94, x95, x96, x97, x98, x99, x100, x101, x102, x103, x104, x105, x106, x107, x108, x109, x110, x111, x112, x113, x114, x115, u116, u117, x118, u119, u120, u121, u122, u123, u124, u125, u126, u127, u128, u129, u130, u131, u132, u133, u134, u135, u136, u137, u138, u139, u140, u141, u142, u143, u144, u145, u146, u147, u148, u149, u150, u151, u152, u153, u154, u155, u156, u157, u158], []⟩ wx))
    (hQE : Hid (∀ (c : Array Value) (wx : World) (p : PosT) (er : Int), c[6]? = some (.slice none 0 0) → c[7]? = some (.pointer (some ⟨pb, 0, none⟩)) → c[8]? = some (.int .i64 er) → Holds wx pb #[.int .i64 p.1, .int .i64 p.2.1, .int .i64 p.2.2] 27 → Keeps (LdS lb mb ov rv) w0 wx → ldLoop (ldT F fuel opn2) F opn2 before (((file : Int), d) :: rest) ord giv out = .error (p, er) → Q .ret ⟨c, []⟩ wx)) :
    (ldIf 75).wp Tryz.prog Q ⟨#[.pointer (some ⟨lb, 0, none⟩), .int .i64 (file : Int), .int .i64 (before : Int), u3, u4, u5, u6, .pointer (some ⟨pb, 0, none⟩), u8, u9, .pointer (some ⟨qb, 0, none⟩), u11, outv, u13, .pointer (some ⟨eb, 0, none⟩), mv0, u16, u17, u18, u19, u20, u21, u22, u23, u24, u25, u26, u27, u28, u29, u30, u31, u32, u33, u34, u35, u36, u37, u38, u39, u40, u41, u42, u43, u44, u45, u46, u47, u48, u49, u50, u51, u52, u53, u54, u55, u56, u57, u58, u59, u60, u61, u62, u63, u64, u65, u66, u67, u68, u69, u70, u71, u72, u73, u74, .bool (d.kind == 6), u76, u77, u78, u79, u80, u81, u82, u83, u84, u85, u86, u87, u88, u89, u90, u91, u92, u93, u94, u95, u96, u97, u98, u99, u100, u101, u102, u103, u104, u105, u106, u107, u108, u109, u110, u111, u112, u113, u114, u115, u116, u117, u118, u119, u120, u121, u122, u123, u124, u125, u126, u127, u128, u129, u130, u131, u132, u133, u134, u135, u136, u137, u138, u139, u140, u141, u142, u143, u144, u145, u146, u147, u148, u149, u150, u151, u152, u153, u154, u155, u156, u157, u158], []⟩ w := by
  have hfi : findI F d.name = (k : Int) := by unfold findI; rw [hf.out]
  have heq := Lib.hid (loop_new (go := ldT F fuel opn2) (F := F) (opn := opn2) (before := before) (d := ((file : Int), d)) (r := rest) (ord := ord) (giv := giv) (out := out) hk hf.out hc hg.out)
  simp only [ldIf, ifOf, Tryz.f72, Option.getD_some, reduceIte, Nat.reduceEqDiff]
  have hkb : (d.kind == 6) = true := by simpa using hk
  obtain ⟨ov', rv', hL, hT1, hT2⟩ := hW.out.ld
  have hfind := inc_find lb mb fv ov' rv' F d.name w hL.holds hL.files (by omega)
  rw [hfi] at hfind
  have HFI := Lib.hid hfind
  obtain ⟨-, -, a2, -⟩ := seven_cells hE.out
  have ael := hE.out.lt
  clear hfind hk
  go_wp2_with fail
  refine (by exact HFI.out : Calls _ _ _ _ _).mono ?_
  rintro e w1 ⟨rfl, hb1'⟩
  have HW1 := Lib.hid (hW.out.new1 hb1')
  have HL1 := Lib.hid (hL.new hb1')
  have HE1 := Lib.hid (hE.out.keeps (Keeps.of_fresh hb1' (fun _ => False)) (fun e => e))
  have HM1 := Lib.hid (hM.out.new hb1')
  clear hL hb1' a2 ael
  have hct := ints_Contains ov' opn2 k w1 (nats_row HL1.out.opn) (by have := HW1.out.ok.short; omega)
  rw [hc] at hct
  have HC := Lib.hid hct
  obtain ⟨oa, oc, rfl⟩ := row_slice HL1.out.opn
  obtain ⟨l0, l1, l2, l3, lf0, lf1, lf2, lf3, ll⟩ : w1.cell? ⟨lb, 0, none⟩ = some fv ∧ w1.cell? ⟨lb, 1, none⟩ = some (.map (some mb)) ∧ w1.cell? ⟨lb, 2, none⟩ = some (.slice oa opn2.length oc) ∧ w1.cell? ⟨lb, 3, none⟩ = some rv' ∧ w1.frozen? ⟨lb, 0, none⟩ = false ∧ w1.frozen? ⟨lb, 1, none⟩ = false ∧ w1.frozen? ⟨lb, 2, none⟩ = false ∧ w1.frozen? ⟨lb, 3, none⟩ = false ∧ lb < w1.heap.size := ⟨HL1.out.holds.cell 0, HL1.out.holds.cell 1, HL1.out.holds.cell 2, HL1.out.holds.cell 3, HL1.out.holds.free 0, HL1.out.holds.free 1, HL1.out.holds.free 2, HL1.out.holds.free 3, HL1.out.holds.lt⟩
  have hkl : k < F.length := findF_lt hf.out
  clear hct
  go_wp2_with fail
  refine (by exact HC.out : Calls _ _ _ _ _).mono ?_
  rintro e w2 ⟨rfl, rfl⟩
  obtain ⟨vL, bL, hlk, hcase⟩ := HL1.out.look HW1.out.ok k (by omega)
  have HCASE := Lib.hid hcase
  clear hcase
  obtain ⟨rfl, rfl⟩ : bL = false ∧ vL = .slice none 0 0 := by
    rcases HCASE.out with ⟨_, e1, e2⟩ | ⟨l', e1, _⟩
    · exact ⟨e1, e2⟩
    · rw [hg.out] at e1; cases e1
  clear HCASE
  have hkn : k ∉ opn2 := fun hm => by rw [List.contains_iff_mem.2 hm] at hc; cases hc
  obtain ⟨va, vc, hov⟩ := HW1.out.row.slice
  subst hov
  have hlen := HW1.out.len
  have hkw : Keeps (fun i => base ≤ i) w0 w1 := HW1.out.keeps.mono (fun i _ hS => hov.out i hS)
  have hcall := hrec.out (fun g => A g ∨ Value.ownBlock (.slice va out.length vc) = some g) lb mb base fv (.slice oa opn2.length oc) rv' F opn2 ord giv k (before + out.length) w1 HL1.out (fun g hg => by
    rcases hg with e | e
    · exact Nat.lt_of_lt_of_le (hA.out g e) HW1.out.keeps.size
    · obtain ⟨_, _, hr, _⟩ := HW1.out.row
      exact (own_lt hr e).1) hkl hF hT.out HW1.out.ok hkn hg.out hfu hlen hb1 (hlay.out.keeps hkw (fun e => by have e2 : base ≤ 0 := e; have : 0 = 0 := rfl; omega))
  have HCALL := Lib.hid hcall
  clear hcall hkw
  go_wp2_with fail
  refine (by exact HCALL.out : Calls _ _ _ _ _).mono ?_
  rintro e w2 ⟨hK2, hres⟩
  have hP2 := HL1.out.pos hK2 HW1.out.pos
  obtain ⟨x0, y0, z0, hq⟩ := HW1.out.tmp
  have hQ2 := HL1.out.pos hK2 hq
  obtain ⟨b0, b1, b2, g0, g1, g2, gl⟩ := three hP2
  obtain ⟨q0, q1, q2, i0, i1, i2, il⟩ := three hQ2
  cases hR2 : ldT F fuel opn2 ord giv k (before + out.length) with
  | error x =>
    obtain ⟨⟨p1, p2, p3⟩, er⟩ := x
    rw [hR2] at hres
    simp only at hres
    subst hres
    have heq2 := Lib.hid (heq.out.trans (by rw [hR2]) : ldLoop (ldT F fuel opn2) F opn2 before (((file : Int), d) :: rest) ord giv out = .error ((p1, p2, p3), er))
    have her : (er == 0) = false := by simpa using ldT_err _ _ _ _ _ _ _ _ _ hR2
    have hq5 := ((hQ2.set 0 (.int .i64 p1)).set 1 (.int .i64 p2)).set 2 (.int .i64 p3)
    have kq : Keeps (· = qb) w2 (((w2.setCell ⟨qb, 0, none⟩ (.int .i64 p1)).setCell ⟨qb, 1, none⟩ (.int .i64 p2)).setCell ⟨qb, 2, none⟩ (.int .i64 p3)) := (((Keeps.refl (· = qb) w2).setCell (p := ⟨qb, 0, none⟩) (.inr rfl) _).setCell (p := ⟨qb, 1, none⟩) (.inr rfl) _).setCell (p := ⟨qb, 2, none⟩) (.inr rfl) _
    have hp5 := hP2.keeps kq (fun e => HW1.out.low.2.2 e)
    have hk5 : Keeps (LdS lb mb ov rv) w0 (((w2.setCell ⟨qb, 0, none⟩ (.int .i64 p1)).setCell ⟨qb, 1, none⟩ (.int .i64 p2)).setCell ⟨qb, 2, none⟩ (.int .i64 p3)) := by
      refine (HW1.out.keeps.trans hK2 ?_).trans kq ?_
      · rintro i hi (e | e | e | e)
        · exact .inl e
        · exact .inr (.inl e)
        · rcases hT1 i e with e2 | e2
          · exact .inr (.inr (.inl e2))
          · omega
        · rcases hT2 i e with e2 | e2
          · exact .inr (.inr (.inr e2))
          · omega
      · rintro i hi rfl
        have := HW1.out.low.2.1
        omega
    have HQ5 := Lib.hid hq5
    have HP5 := Lib.hid hp5
    have HK5 := Lib.hid hk5
    clear hR2 hq5 hp5 hk5 kq hP2 hQ2 hq hK2
    unfold posAgg
    go_upto_region 20 with fail
    generalize ((w2.setCell ⟨qb, 0, none⟩ (.int .i64 p1)).setCell ⟨qb, 1, none⟩ (.int .i64 p2)).setCell ⟨qb, 2, none⟩ (.int .i64 p3) = w5 at *
    clear b0 b1 b2 g0 g1 g2 gl q0 q1 q2 i0 i1 i2 il
    obtain ⟨b0, b1, b2, g0, g1, g2, gl⟩ := three HP5.out
    obtain ⟨q0, q1, q2, i0, i1, i2, il⟩ := three HQ5.out
    have hfin := Lib.hid (((HP5.out.set 0 (.int .i64 p1)).set 1 (.int .i64 p2)).set 2 (.int .i64 p3)).drew
    have hkf := Lib.hid ((((HK5.out).setCell (p := ⟨pb, 0, none⟩) (.inl HW1.out.low.1) (.int .i64 p1)).setCell (p := ⟨pb, 1, none⟩) (.inl HW1.out.low.1) (.int .i64 p2)).setCell (p := ⟨pb, 2, none⟩) (.inl HW1.out.low.1) (.int .i64 p3)).drew
    go_wp2_with fail
    go_region
    all_goals
      go_wp2_with fail
      exact hQE.out _ _ (p1, p2, p3) er rfl rfl rfl (by exact hfin.out) (by exact hkf.out) heq2.out
  | ok x =>
    obtain ⟨ord2, giv2, l⟩ := x
    rw [hR2] at hres
    obtain ⟨v, ov2, rv2, rfl, hrow, hL2, hnew, hT3, hT4⟩ := hres
    have heq2 := Lib.hid (heq.out.trans (by rw [hR2]) : ldLoop (ldT F fuel opn2) F opn2 before (((file : Int), d) :: rest) ord giv out = (if roomT before out < l.length then .error (posD (l.getD (roomT before out) zeroD), 3) else ldLoop (ldT F fuel opn2) F opn2 before rest ord2 giv2 (out ++ l)))
    obtain ⟨hok2, hlen2⟩ := ldT_ok F fuel opn2 _ _ _ _ _ _ _ hR2 HW1.out.ok hkl hkn hg.out hlen
    have hW5 := Lib.hid (HW1.out.turn hbs hT1 hT2 HL1.out hK2 hL2 hok2 hT3 hT4 0 0 0)
    have kq : Keeps (· = qb) w2 (((w2.setCell ⟨qb, 0, none⟩ (.int .i64 0)).setCell ⟨qb, 1, none⟩ (.int .i64 0)).setCell ⟨qb, 2, none⟩ (.int .i64 0)) := (((Keeps.refl (· = qb) w2).setCell (p := ⟨qb, 0, none⟩) (.inr rfl) _).setCell (p := ⟨qb, 1, none⟩) (.inr rfl) _).setCell (p := ⟨qb, 2, none⟩) (.inr rfl) _
    have hr5 := Lib.hid (hrow.side kq (fun b e => by cases e; exact ⟨_, hQ2⟩))
    have hnn := Lib.hid (show ∀ g, v.ownBlock = some g → Value.ownBlock (.slice va out.length vc) ≠ some g from fun g hg e => by
      obtain ⟨_, _, hr, _⟩ := HW1.out.row
      have h1 := (own_lt hr e).1
      have h2 := hnew g hg
      omega)
    clear hR2 hrow hL2 hnew hT3 hT4 kq hP2 hQ2 hq hK2
    unfold posAgg
    go_wp2_with fail
    exact hQ.out _ _ _ _ _ _ _ _ _ _ _ _ _ _ _ _ _ _ _ _ _ _ _ _ _ _ _ _ _ _ _ _ _ _ _ _ _ _ _ _ _ _ _ _ ord2 giv2 l hW5.out hr5.out hnn.out (by omega) heq2.out
set_option maxHeartbeats 4000000 in
set_option maxRecDepth 100000 in
theorem ld_if75 {Q : Exit → Act → World → Prop} (A : Nat → Prop) (fuel lb mb base pb qb eb before file : Nat) (fv ov rv dv outv mv0 pv : Value) (F : List FileT) (opn2 : List Nat) (ord : List ByteArray) (giv : GivT) (D : List DefT) (out : List FdT) (d : DefT) (rest : List FdT) (w0 w : World) (hrec : Hid (LoadC fuel)) (hF : F.length ≤ 8) (hT : Hid (∀ f ∈ F, f.text.size ≤ maxLen ∧ f.name.size ≤ maxLen)) (hfu : F.length < opn2.length + fuel) (hb1 : 0 < base) (hbs : base ≤ w0.heap.size) (hlay : Hid (Lay0 w0)) (hA : Hid (∀ g, A g → g < w0.heap.size)) (hov : Hid (∀ i, LdS lb mb ov rv i → base ≤ i))  {u3 u4 u5 u6 u8 u9 u11 u13 u16 u17 u18 u19 u20 u21 u22 u23 u24 u25 u26 u27 u28 u29 u30 u31 u32 u33 u34 u35 u36 u37 u38 u39 u40 u41 u42 u43 u44 u45 u46 u47 u48 u49 u50 u51 u52 u53 u54 u55 u56 u57 u58 u59 u60 u61 u62 u63 u64 u65 u66 u67 u68 u69 u70 u71 u72 u73 u74 u76 u77 u78 u79 u80 u81 u82 u83 u84 u85 u86 u87 u88 u89 u90 u91 u92 u93 u94 u95 u96 u97 u98 u99 u100 u101 u102 u103 u104 u105 u106 u107 u108 u109 u110 u111 u112 u113 u114 u115 u116 u117 u118 u119 u120 u121 u122 u123 u124 u125 u126 u127 u128 u129 u130 u131 u132 u133 u134 u135 u136 u137 u138 u139 u140 u141 u142 u143 u144 u145 u146 u147 u148 u149 u150 u151 u152 u153 u154 u155 u156 u157 u158 : Value}
    (hW : Hid (LdW A lb mb base pb qb fv ov rv dv F opn2 (file : Int) D before w0 outv ord giv out w)) (hE : Hid (Holds w eb #[.int .i64 d.kind, .string d.label, .string d.name, pv, .int .i64 (file : Int), .int .i64 d.line, .int .i64 d.col] 34)) (hM : Hid (FdsRow w base mv0 [((file : Int), d)])) (hMn : Hid (∀ g, mv0.ownBlock = some g → outv.ownBlock ≠ some g))
    (hQ : Hid (∀ (x11 x15 x16 x17 x18 x75 x76 x77 x78 x79 x80 x81 x84 x85 x86 x87 x88 x89 x92 x93 x94 x95 x96 x97 x98 x99 x100 x101 x102 x103 x104 x105 x106 x107 x108 x109 x110 x111 x112 x113 x114 x115 x118 : Value) (wx : World) (ord' : List ByteArray) (giv' : GivT) (m : List FdT), LdW A lb mb base pb qb fv ov rv dv F opn2 (file : Int) D before w0 outv ord' giv' out wx → FdsRow wx base x15 m → (∀ g, x15.ownBlock = some g → outv.ownBlock ≠ some g) → m.length ≤ 6000 → ldLoop (ldT F fuel opn2) F opn2 before (((file : Int), d) :: rest) ord giv out = (if roomT before out < m.length then .error (posD (m.getD (roomT before out) zeroD), 3) else ldLoop (ldT F fuel opn2) F opn2 before rest ord' giv' (out ++ m)) → Q .normal ⟨#[.pointer (some ⟨lb, 0, none⟩), .int .i64 (file : Int), .int .i64 (before : Int), u3, u4, u5, u6, .pointer (some ⟨pb, 0, none⟩), u8, u9, .pointer (some ⟨qb, 0, none⟩), x11, outv, u13, .pointer (some ⟨eb, 0, none⟩), x15, x16, x17, x18, u19, u20, u21, u22, u23, u24, u25, u26, u27, u28, u29, u30, u31, u32, u33, u34, u35, u36, u37, u38, u39, u40, u41, u42, u43, u44, u45, u46, u47, u48, u49, u50, u51, u52, u53, u54, u55, u56, u57, u58, u59, u60, u61, u62, u63, u64, u65, u66, u67, u68, u69, u70, u71, u72, u73, u74, x75, x76, x77, x78, x79, x80, x81, u82, u83, x84, x85, x86, x87, x88, x89, u90, u91, x92, x93, x94, x95, x96, x97, x98, x99, x100, x101, x102, x103, x104, x105, x106, x107, x108, x109, x110, x111, x112, x113, x114, x115, u116, u117, x118, u119, u120, u121, u122, u123, u124, u125, u126, u127, u128, u129, u130, u131, u132, u133, u134, u135, u136, u137, u138, u139, u140, u141, u142, u143, u144, u145, u146, u147, u148, u149, u150, u151, u152, u153, u154, u155, u156, u157, u158], []⟩ wx))
    (hQE : Hid (∀ (c : Array Value) (wx : World) (p : PosT) (er : Int), c[6]? = some (.slice none 0 0) → c[7]? = some (.pointer (some ⟨pb, 0, none⟩)) → c[8]? = some (.int .i64 er) → Holds wx pb #[.int .i64 p.1, .int .i64 p.2.1, .int .i64 p.2.2] 27 → Keeps (LdS lb mb ov rv) w0 wx → ldLoop (ldT F fuel opn2) F opn2 before (((file : Int), d) :: rest) ord giv out = .error (p, er) → Q .ret ⟨c, []⟩ wx)) :
    (ldIf 75).wp Tryz.prog Q ⟨#[.pointer (some ⟨lb, 0, none⟩), .int .i64 (file : Int), .int .i64 (before : Int), u3, u4, u5, u6, .pointer (some ⟨pb, 0, none⟩), u8, u9, .pointer (some ⟨qb, 0, none⟩), u11, outv, u13, .pointer (some ⟨eb, 0, none⟩), mv0, u16, u17, u18, u19, u20, u21, u22, u23, u24, u25, u26, u27, u28, u29, u30, u31, u32, u33, u34, u35, u36, u37, u38, u39, u40, u41, u42, u43, u44, u45, u46, u47, u48, u49, u50, u51, u52, u53, u54, u55, u56, u57, u58, u59, u60, u61, u62, u63, u64, u65, u66, u67, u68, u69, u70, u71, u72, u73, u74, .bool (d.kind == 6), u76, u77, u78, u79, u80, u81, u82, u83, u84, u85, u86, u87, u88, u89, u90, u91, u92, u93, u94, u95, u96, u97, u98, u99, u100, u101, u102, u103, u104, u105, u106, u107, u108, u109, u110, u111, u112, u113, u114, u115, u116, u117, u118, u119, u120, u121, u122, u123, u124, u125, u126, u127, u128, u129, u130, u131, u132, u133, u134, u135, u136, u137, u138, u139, u140, u141, u142, u143, u144, u145, u146, u147, u148, u149, u150, u151, u152, u153, u154, u155, u156, u157, u158], []⟩ w := by
  by_cases hk : d.kind = 6
  · cases hf : findF F d.name with
    | none => exact ld_none A fuel lb mb base pb qb eb before file fv ov rv dv outv mv0 pv F opn2 ord giv D out d rest w0 _ hrec hF hT hfu hb1 hbs hlay hA hov hk hf hW hE hM hMn hQ hQE
    | some k =>
      cases hc : opn2.contains k with
      | true => exact ld_circle A fuel lb mb base pb qb eb before file fv ov rv dv outv mv0 pv F opn2 ord giv D out d rest w0 _ hrec hF hT hfu hb1 hbs hlay hA hov hk k (Lib.hid hf) hc hW hE hM hMn hQ hQE
      | false =>
        cases hg : givT giv k with
        | some l => exact ld_known A fuel lb mb base pb qb eb before file fv ov rv dv outv mv0 pv F opn2 ord giv D out d rest w0 _ hrec hF hT hfu hb1 hbs hlay hA hov hk k (Lib.hid hf) hc l (Lib.hid hg) hW hE hM hMn hQ hQE
        | none => exact ld_new A fuel lb mb base pb qb eb before file fv ov rv dv outv mv0 pv F opn2 ord giv D out d rest w0 _ hrec hF hT hfu hb1 hbs hlay hA hov hk k (Lib.hid hf) hc (Lib.hid hg) hW hE hM hMn hQ hQE
  · exact ld_no A fuel lb mb base pb qb eb before file fv ov rv dv outv mv0 pv F opn2 ord giv D out d rest w0 _ hrec hF hT hfu hb1 hbs hlay hA hov hk hW hE hM hMn hQ hQE
end Go.Proofs.YtofhcgbihonckaaGreat
