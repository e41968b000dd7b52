/- Bytes in memory: to read, and rows of one's own that grow. | Contracts of package blob: the writer's names. | blob: region 2 of encode$1 (printed by gblb.py). | Contracts of package blob: the closing of nodes. | blob: region 17 of encode (printed by gblb.py). | blob: region 9 of encode (printed by gblb.py). | blob: region 13 of encode (printed by gblb.py). | blob: region 18 of encode (printed by gblb.py). -/
import Derived.Test.YtofhcgbihonckaaGreatDoorZ9
import Derived.Test.YtofhcgbihonckaaGreatDoorZ3
import Derived.Test.YtofhcgbihonckaaGreatDoorZ10
import Derived.Deep.LoopGhost
import Derived.Test.YtofhcgbihonckaaGreatDoorZ2
import Derived.WalkSmall
import Derived.IntWalk

set_option linter.unusedVariables false
set_option linter.unusedSimpArgs false
set_option linter.unusedSectionVars false

namespace Go.Proofs.YtofhcgbihonckaaGreatDoor
open Go.RowKit

/-- A slice of bytes that can be read. -/
def BytesAt (w : World) (v : Value) (l : List UInt8) : Prop :=
  ∃ (a : Option Addr) (cap : Nat), v = .slice a l.length cap ∧ l.length ≤ cap ∧ cap ≤ 9223372036854775807 ∧
    (0 < l.length → ∃ g o, a = some ⟨g, o, none⟩ ∧ ∀ (i : Nat) (h : i < l.length), w.cell? ⟨g, o + i, none⟩ = some (.int .u8 l[i].toNat))
/-- A row of bytes of one's own. -/
def Bts (w : World) (base : Nat) (v : Value) (l : List UInt8) : Prop := w.ownsRow base 5 1 v l.length (Lib.byteCells l)
/-- A row has grown: nothing else has turned, and its block is the old one or a new one. -/
def Grew (w w' : World) (v v' : Value) : Prop := Keeps (fun g => v.ownBlock = some g) w w' ∧ ∀ g, v'.ownBlock = some g → v.ownBlock = some g ∨ w.heap.size ≤ g
theorem Grew.refl (w : World) (v : Value) : Grew w w v v := ⟨Keeps.refl _ _, fun _ h => .inl h⟩
theorem Grew.trans {w w1 w2 : World} {v v1 v2 : Value} (h : Grew w w1 v v1) (k : Grew w1 w2 v1 v2) : Grew w w2 v v2 := by
  refine ⟨h.1.trans k.1 (fun i hi e => ?_), fun g hg => ?_⟩
  · rcases h.2 i e with e | e
    · exact e
    · omega
  · rcases k.2 g hg with e | e
    · exact h.2 g e
    · have := h.1.size; exact .inr (by omega)
theorem Grew.fresh {w w1 w2 : World} {v v2 : Value} (h : Below w.heap.size w w1) (k : Grew w1 w2 v v2) : Grew w w2 v v2 :=
  ⟨(Keeps.of_fresh h _).trans k.1 (fun _ _ e => e), fun g hg => by
    rcases k.2 g hg with e | e
    · exact .inl e
    · have := h.size; exact .inr (by omega)⟩
theorem Grew.after {w w1 w2 : World} {v v2 : Value} (k : Grew w1 w2 v v2) (h : Keeps (fun _ => False) w w1) : Grew w w2 v v2 :=
  ⟨(h.mono (fun _ _ e => e.elim)).trans k.1 (fun _ _ e => e), fun g hg => (k.2 g hg).imp id (fun e => Nat.le_trans h.size e)⟩
theorem Bts.shape {w : World} {base : Nat} {v : Value} {l : List UInt8} (h : Bts w base v l) : ∃ a cap, v = .slice a l.length cap := bytes_shape h
theorem Bts.nil (w : World) (base : Nat) : Bts w base (.slice none 0 0) [] := World.ownsRow_nil _ _ _ _
theorem Bts.keeps {S : Nat → Prop} {w w' : World} {base : Nat} {v : Value} {l : List UInt8} (h : Bts w base v l) (k : Keeps S w w') (hs : ∀ g, v.ownBlock = some g → ¬ S g) : Bts w' base v l := ownsRow_keeps h k hs
theorem Bts.read {w : World} {base : Nat} {v : Value} {l : List UInt8} (h : Bts w base v l) : BytesAt w v l := by
  have h' : w.ownsRow base 5 1 v l.length (Lib.byteCells l) := h
  rcases h'.2 with ⟨rfl, h0⟩ | ⟨g, cap, cur, rfl, hb, hh, hcap, hr⟩
  · have : l = [] := List.eq_nil_of_length_eq_zero h0
    subst this
    exact ⟨none, 0, rfl, Nat.le_refl _, by omega, fun h => by simp at h⟩
  · refine ⟨_, cap, rfl, hcap, by have := hr.1; unfold maxLen at this; omega, fun _ => ⟨g, 0, rfl, fun i hi => ?_⟩⟩
    rw [Nat.zero_add]
    have hc := h'.cells (g := g) rfl i (.int .u8 l[i].toNat) (by simp [Lib.byteCells, hi])
    have hadd : (⟨g, 0, none⟩ : Addr).add i = ⟨g, i, none⟩ := by unfold Addr.add; split <;> simp_all
    rwa [hadd] at hc
theorem BytesAt.shape {w : World} {v : Value} {l : List UInt8} (h : BytesAt w v l) : ∃ a cap, v = .slice a l.length cap ∧ l.length ≤ cap ∧ cap ≤ 9223372036854775807 := by
  obtain ⟨a, cap, e, h1, h2, _⟩ := h; exact ⟨a, cap, e, h1, h2⟩
theorem BytesAt.keeps {S : Nat → Prop} {w w' : World} {v : Value} {l : List UInt8} (h : BytesAt w v l) (k : Keeps S w w') (hs : ∀ g, v.ownBlock = some g → ¬ S g) : BytesAt w' v l := by
  obtain ⟨a, cap, rfl, h1, h2, h3⟩ := h
  refine ⟨a, cap, rfl, h1, h2, fun h0 => ?_⟩
  obtain ⟨g, o, rfl, hc⟩ := h3 h0
  exact ⟨g, o, rfl, fun i hi => (k.cell (p := ⟨g, o + i, none⟩) (World.block_lt_of_cell? w _ (hc i hi)) (hs g rfl)).trans (hc i hi)⟩
theorem BytesAt.new {w w' : World} {v : Value} {l : List UInt8} (h : BytesAt w v l) (b : Below w.heap.size w w') : BytesAt w' v l := h.keeps (Keeps.of_fresh b (fun _ => False)) (fun _ _ e => e)
theorem BytesAt.src {w : World} {v : Value} {l : List UInt8} (h : BytesAt w v l) : Src Tryz.prog 1 26 v l.length (Lib.byteCells l) w := by
  obtain ⟨a, cap, rfl, h1, h2, h3⟩ := h
  rcases Nat.eq_zero_or_pos l.length with h0 | h0
  · have hl : l = [] := List.eq_nil_of_length_eq_zero h0
    subst hl
    cases a with
    | none => exact Src.ofNil w Tryz.underlying26 cap
    | some a => exact Src.ofSlice w Tryz.underlying26 a 0 cap [] rfl (fun j u hu => by simp at hu) (fun u hu => by cases hu)
  · obtain ⟨g, o, rfl, hc⟩ := h3 h0
    refine Src.ofSlice w Tryz.underlying26 ⟨g, o, none⟩ l.length cap _ (by simp [Lib.byteCells]) (fun j u hu => ?_) (fun u hu => ?_)
    · have hj : j < l.length := by
        have := (List.getElem?_eq_some_iff.1 hu).1
        simpa [Lib.byteCells] using this
      have hadd : (⟨g, o, none⟩ : Addr).add j = ⟨g, o + j, none⟩ := by unfold Addr.add; split <;> simp_all
      rw [hadd, hc j hj, ← hu]
      simp [Lib.byteCells, hj]
    · simp only [Lib.byteCells, List.mem_map] at hu
      obtain ⟨c, _, rfl⟩ := hu
      rfl
theorem text_src (w : World) (s : ByteArray) : Src Tryz.prog 1 9 (.string s) s.size (Lib.byteCells s.data.toList) w := Src.ofString w Tryz.underlying9 s
theorem Grew.of {w w' : World} {v v' : Value} (hg : w.grownBy w' v.ownBlock) (ha : v'.ownBlock = v.ownBlock ∨ v'.ownBlock = some w.heap.size) : Grew w w' v v' :=
  ⟨Keeps.of_grown hg (fun i e => e), fun g hv => by
    rcases ha with e | e
    · exact .inl (by rw [← e]; exact hv)
    · rw [e] at hv; cases hv; exact .inr (Nat.le_refl _)⟩
/-- What a function that lengthens a row of bytes answers. -/
def AddPost (base : Nat) (v : Value) (l : List UInt8) (w : World) (e : Ending) (w' : World) : Prop := ∃ v', e = .returned v' ∧ Bts w' base v' l ∧ Grew w w' v v'
set_option maxRecDepth 100000 in
set_option maxHeartbeats 2000000 in
theorem blob_Sum (v : Value) (l : List UInt8) (w : World) (hl : BytesAt w v l) (hlen : l.length ≤ 1000000000) :
    Calls Tryz.prog 22 #[v] w fun e w' => e = .returned (.int .i64 (sumB l)) ∧ w = w' := by
  obtain ⟨a, cap, rfl, hc1, hc2, hat⟩ := hl
  have HA := Lib.hid hat; clear hat
  go_enter Tryz.func22, Tryz.ntmps22
  go_wp2_with fail
  go_loopg [3, 8] (l.length) (fun f x y wr => ∃ (k n : Nat), x = .int .u32 n ∧ y = .int .i64 k ∧ k ≤ l.length ∧ l.length ≤ k + f ∧ n < 4294967296 ∧ Hid (sumB l = sumA n k (l.drop k)) ∧ w = wr)
  case atStart => exact ⟨0, 0, rfl, rfl, by omega, by omega, by omega, rfl, rfl⟩
  case round =>
    obtain ⟨k, n, rfl, rfl, hk1, hk2, hn, hS, rfl⟩ := hrel
    by_cases hlt : k < l.length
    · obtain ⟨g, o, rfl, hcell⟩ := HA.out (by omega)
      have c0 := hcell k hlt
      have hstep := Lib.hid (show sumB l = sumA ((n + l[k].toNat * (k + 1)) % 4294967296) (k + 1) (l.drop (k + 1)) from by
        rw [hS.out, List.drop_eq_getElem_cons hlt]; rfl)
      have hb := UInt8.toNat_lt l[k]
      have g0 : (k : Int) < (l.length : Int) := by omega
      clear hcell hS
      generalize l[k].toNat = c at *
      go_wp2_with fail
      go_roundg (gk - 1)
      case measure => omega
      case rel =>
        refine ⟨k + 1, (n + c * (k + 1)) % 4294967296, ?_, by go_num, by omega, by omega, Nat.mod_lt _ (by omega), hstep.out, rfl⟩
        congr 1
        rw [Int.natCast_emod, Int.natCast_add, Int.natCast_mul, Int.natCast_add]
        simp only [Int.natCast_one]
        generalize (c : Int) * ((k : Int) + 1) = m
        omega
    · have hfin := Lib.hid (show sumB l = n from by rw [hS.out, List.drop_eq_nil_of_le (by omega)]; rfl)
      go_wp2_with fail
      go_ret
      exact ⟨by rw [hfin.out]; rfl, rfl⟩
theorem list_held {w : World} {b : Nat} {l : List Int} {t : TypeId} (h : Holds w b (l.map fun n => Value.int .i64 n).toArray t) (hl : l.length ≤ 1000 := by decide) : ListAt w.heap.size w (.slice (some ⟨b, 0, none⟩) l.length l.length) l := by
  refine ⟨_, _, rfl, Nat.le_refl _, by omega, fun _ => ⟨b, 0, rfl, h.lt, fun i hi => ?_⟩⟩
  rw [Nat.zero_add, h.cell i]
  simp [hi]
/-- The bytes of numbers. -/
def b4s (l : List Int) : List UInt8 := l.flatMap bytes4
theorem b4s_len (l : List Int) : (b4s l).length = 4 * l.length := by
  induction l with
  | nil => rfl
  | cons n l ih => simp only [b4s, List.flatMap_cons, List.length_append, List.length_cons] at ih ⊢; rw [ih, show (bytes4 n).length = 4 from rfl]; omega
theorem bytes4_b4 (n : Nat) (h : n < 4294967296) : bytes4 (n : Int) = b4 n := by
  unfold bytes4 b4
  have h0 : ((n : Int) / 16777216).toNat = n / 16777216 := by omega
  have h1 : ((n : Int) / 65536 % 256).toNat = n / 65536 % 256 := by omega
  have h2 : ((n : Int) / 256 % 256).toNat = n / 256 % 256 := by omega
  have h3 : ((n : Int) % 256).toNat = n % 256 := by omega
  rw [h0, h1, h2, h3]
  have u : ∀ x : Nat, UInt8.ofNat (x % 256) = UInt8.ofNat x := fun x => UInt8.toNat_inj.1 (by rw [UInt8.toNat_ofNat', UInt8.toNat_ofNat']; omega)
  rw [u, u, u]
theorem front_b4s (st sn : List UInt8) (h : 28 + st.length + sn.length < 4294967296) : b4s [3490578157, 28 + (st.length : Int) + (sn.length : Int), (st.length : Int), (sn.length : Int), (sumB st : Int), (sumB sn : Int)] = frontT st sn := by
  have e1 := bytes4_b4 3490578157 (by omega)
  have e2 := bytes4_b4 (28 + st.length + sn.length) h
  have e3 := bytes4_b4 st.length (by omega)
  have e4 := bytes4_b4 sn.length (by omega)
  have e5 := bytes4_b4 (sumB st) (sumB_lt st)
  have e6 := bytes4_b4 (sumB sn) (sumB_lt sn)
  rw [Int.natCast_add, Int.natCast_add] at e2
  unfold b4s frontT
  simp only [List.flatMap_cons, List.flatMap_nil, List.append_nil]
  rw [← e1, ← e2, ← e3, ← e4, ← e5, ← e6]
  simp only [List.append_assoc]
  rfl
set_option maxRecDepth 100000 in
set_option maxHeartbeats 2000000 in
theorem blob_put (base : Nat) (v nv : Value) (l : List UInt8) (ns : List Int) (w : World) (hv : Bts w base v l) (hn : ListAt w.heap.size w nv ns) (hne : ∀ g, v.ownBlock = some g → nv.ownBlock ≠ some g) (hr : ∀ x ∈ ns, 0 ≤ x ∧ x ≤ 4294967295) (hlen : ns.length ≤ 1000) (hll : l.length ≤ 1000000000) (hbase : base ≤ w.heap.size) :
    Calls Tryz.prog 63 #[v, nv] w (AddPost base v (l ++ b4s ns) w) := by
  obtain ⟨a, cap, rfl, hc1, hc2, hat⟩ := hn
  have HA := Lib.hid hat; clear hat
  have HR := Lib.hid hr; clear hr
  obtain ⟨va, vc, rfl⟩ := hv.shape
  have HNE := Lib.hid hne; clear hne
  go_enter Tryz.func63, Tryz.ntmps63
  go_wp2_with fail
  go_loopg [0, 9] (ns.length) (fun f x y wr => ∃ (k : Nat) (acc : List UInt8), y = .int .i64 k ∧ k ≤ ns.length ∧ ns.length ≤ k + f ∧ Hid (l ++ b4s ns = acc ++ b4s (ns.drop k)) ∧ Hid (acc.length = l.length + 4 * k) ∧
    Bts wr base x acc ∧ Grew w wr (.slice va l.length vc) x)
  case atStart => exact ⟨0, l, rfl, by omega, by omega, rfl, rfl, hv, Grew.refl _ _⟩
  case round =>
    obtain ⟨k, acc, rfl, hk1, hk2, hA, hAL, hown, hG⟩ := hrel
    have hbs := hG.1.size
    by_cases hlt : k < ns.length
    · obtain ⟨g, o, rfl, hg, hcell⟩ := HA.out (by omega)
      have hx := HR.out ns[k] (List.getElem_mem hlt)
      have c0 := (hG.1.cell (p := ⟨g, o + k, none⟩) hg (fun e => HNE.out g e rfl)).trans (hcell k hlt)
      have hstep := Lib.hid (show b4s (ns.drop k) = bytes4 ns[k] ++ b4s (ns.drop (k + 1)) from by
        rw [List.drop_eq_getElem_cons hlt]; rfl)
      have g0 : (k : Int) < (ns.length : Int) := by omega
      clear hcell
      generalize ns[k] = n at hx c0 hstep
      obtain ⟨hx0, hx1⟩ := hx
      obtain ⟨ao, co, rfl⟩ := hown.shape
      have i0' : (0 : Int) ≤ k := by omega
      obtain ⟨i0, hi, hz0, hz1, hz2⟩ := info_parts infoByte
      have hAL2 := hAL.out
      have HK := Lib.hid hAL2
      have hal : acc.length ≤ 1000004000 := by omega
      clear hAL2
      have hne4 : bytes4 n ≠ [] := by unfold bytes4; simp
      go_wp2_with (at_builtin; refine wpList_append_src _ rfl _ _ 26 26 rfl base 5 i0 (.int .u8 0) 1 1 Tryz.underlying26 hi hz0 hz1 hz2 rfl _ acc.length (Lib.byteCells acc) rfl (by exact World.ownsRow.alloc hown _) _ rfl 4 [.int .u8 (n / 16777216), .int .u8 (n / 65536 % 256), .int .u8 (n / 256 % 256), .int .u8 (n % 256)] ?c1 ?c2 ?c3 ?c4 ?_)
      case c1 => exact Src.ofSlice _ Tryz.underlying26 _ 4 4 _ rfl (new_cells _ _ _ _ rfl _ rfl) (fun u hu => by simp at hu; rcases hu with rfl | rfl | rfl | rfl <;> rfl)
      case c2 => unfold maxLen; omega
      case c3 => omega
      case c4 => simp; omega
      intro v' w3 hown' hgrow hat'
      have hG3 : Grew wr w3 (.slice ao acc.length co) v' := (Grew.of (by exact hgrow) (hat'.imp id (fun e => by rw [e]; simp))).fresh ((Below.refl _ wr).alloc (Nat.le_refl _) _)
      have hown2 : Bts w3 base v' (acc ++ bytes4 n) := by
        have e := bytes4_cells n hx0 hx1
        have e2 : Lib.byteCells (acc ++ bytes4 n) = Lib.byteCells acc ++ Lib.byteCells (bytes4 n) := by simp [Lib.byteCells]
        unfold Bts
        rw [e2, e, List.length_append, show (bytes4 n).length = 4 from rfl]
        exact hown'
      have hG4 := hG.trans hG3
      clear hgrow hown' hat' hG3
      obtain ⟨ao', cap', rfl⟩ := hown2.shape
      go_wp2_with fail
      go_roundg (gk - 1)
      case measure => omega
      case rel =>
        refine ⟨k + 1, acc ++ bytes4 n, by go_num, by omega, by omega, ?_, ?_, hown2, hG4⟩
        · show _ = _
          rw [hA.out, hstep.out]; simp
        · show _ = _
          rw [List.length_append, HK.out, show (bytes4 n).length = 4 from rfl]; omega
    · have hfin := Lib.hid (show l ++ b4s ns = acc from by rw [hA.out, List.drop_eq_nil_of_le (by omega)]; simp [b4s])
      obtain ⟨ao, co, rfl⟩ := hown.shape
      go_wp2_with fail
      go_ret
      exact ⟨_, rfl, by rw [hfin.out]; exact hown, hG⟩
def zrep (k : Nat) : List UInt8 := List.replicate k 0
theorem zrep_succ (k : Nat) : zrep (k + 1) = zrep k ++ [0] := List.replicate_succ'
set_option maxRecDepth 100000 in
set_option maxHeartbeats 2000000 in
theorem blob_padded (base : Nat) (v : Value) (l : List UInt8) (s : ByteArray) (least : Nat) (w : World) (hv : Bts w base v l) (hle : least ≤ 1) (hs : s.size ≤ 1000000000) (hll : l.length ≤ 1000000000) (hbase : base ≤ w.heap.size) :
    Calls Tryz.prog 64 #[v, .string s, .int .i64 least] w (AddPost base v (l ++ padT least s.data.toList) w) := by
  have hsl : s.data.toList.length = s.size := Array.length_toList
  obtain ⟨va, vc, rfl⟩ := hv.shape
  obtain ⟨i0, hi, hz0, hz1, hz2⟩ := info_parts infoByte
  go_enter Tryz.func64, Tryz.ntmps64
  go_wp2_with (at_builtin; refine wpList_append_src _ rfl _ _ 26 9 rfl base 5 i0 (.int .u8 0) 1 1 Tryz.underlying26 hi hz0 hz1 hz2 rfl _ l.length (Lib.byteCells l) rfl (by exact hv) _ rfl s.size (Lib.byteCells s.data.toList) ?c1 ?c2 ?c3 ?c4 ?_)
  case c1 => exact text_src _ s
  case c2 => unfold maxLen; omega
  case c3 => omega
  case c4 => exact hbase
  intro v1 w1 hown1 hgrow1 hat1
  have hG1 : Grew w w1 (.slice va l.length vc) v1 := Grew.of hgrow1 hat1
  have hb1 : Bts w1 base v1 (l ++ s.data.toList) := by
    unfold Bts
    rw [show Lib.byteCells (l ++ s.data.toList) = Lib.byteCells l ++ Lib.byteCells s.data.toList from by simp [Lib.byteCells], List.length_append, hsl]
    exact hown1
  clear hown1 hgrow1 hat1
  obtain ⟨l1, hl1⟩ : ∃ l1, l1 = l ++ s.data.toList := ⟨_, rfl⟩
  have hl1n : l1.length ≤ 2000000000 := by rw [hl1, List.length_append, hsl]; omega
  rw [← hl1] at hb1
  have HL1 := Lib.hid hl1
  obtain ⟨a1, c1, rfl⟩ := hb1.shape
  clear hl1
  have hsz := hG1.1.size
  go_wp2_with fail
  obtain ⟨Z, hZ⟩ : ∃ Z, Z = zerosN least s.size := ⟨_, rfl⟩
  have hZ4 : Z ≤ 4 := by rw [hZ]; unfold zerosN; split <;> omega
  have hZt := Lib.hid (fun (k : Nat) (hk : k < Z) => show (0 < (least : Int) - k) ∨ (¬ (0 < (least : Int) - k) ∧ ¬ ((s.size + k) % 4 = 0)) from by
    rw [hZ] at hk; unfold zerosN at hk; split at hk <;> omega)
  have hZf := Lib.hid (show ¬ (0 < (least : Int) - Z) ∧ (s.size + Z) % 4 = 0 from by
    rw [hZ]; unfold zerosN; split <;> omega)
  have HZ := Lib.hid hZ
  clear hZ
  go_loopg [0, 2, 7] Z (fun f x z y wr => ∃ (k m : Nat) (acc : List UInt8), y = .int .i64 m ∧ z = .int .i64 ((least : Int) - k) ∧ Hid (m = s.size + k) ∧ m ≤ s.size + 4 ∧ k ≤ Z ∧ Z ≤ k + f ∧
    Hid (acc = l1 ++ zrep k) ∧ acc.length ≤ 2000000000 + k ∧ Bts wr base x acc ∧ Grew w wr (.slice va l.length vc) x)
  case atStart => exact ⟨0, s.size, l1, rfl, by simp, rfl, by omega, by omega, by omega, (by show _ = _; simp [zrep]), by omega, hb1, hG1⟩
  case round =>
    obtain ⟨k, m, acc, rfl, rfl, hm, hm4, hk1, hk2, hA, hal, hown, hG⟩ := hrel
    have hbs := hG.1.size
    obtain ⟨ao, co, rfl⟩ := hown.shape
    by_cases hlt : k < Z
    · have ht := hZt.out k hlt
      rw [← hm.out] at ht
      rcases ht with ht | ⟨ht1, ht2⟩
      · have hd : decide (k < least) = true := by simp; omega
        clear ht
        go_wp2_with (at_builtin; refine wpList_append_src _ rfl _ _ 26 26 rfl base 5 i0 (.int .u8 0) 1 1 Tryz.underlying26 hi hz0 hz1 hz2 rfl _ acc.length (Lib.byteCells acc) rfl (by exact World.ownsRow.alloc hown _) _ rfl 1 [.int .u8 0] ?d1 ?d2 ?d3 ?d4 ?_)
        case d1 => exact Src.ofSlice _ Tryz.underlying26 _ 1 1 _ rfl (new_cells _ _ _ _ rfl _ rfl) (fun u hu => by simp at hu; rcases hu with rfl; rfl)
        case d2 => unfold maxLen; omega
        case d3 => omega
        case d4 => first | omega | (simp; omega)
        intro v' w3 hown' hgrow hat'
        have hG3 : Grew wr w3 (.slice ao acc.length co) v' := (Grew.of (by exact hgrow) (hat'.imp id (fun e => by rw [e]; simp))).fresh ((Below.refl _ wr).alloc (Nat.le_refl _) _)
        have hown2 : Bts w3 base v' (acc ++ [0]) := by
          unfold Bts
          rw [show Lib.byteCells (acc ++ [0]) = Lib.byteCells acc ++ [.int .u8 0] from by simp [Lib.byteCells], List.length_append]
          exact hown'
        have hG4 := hG.trans hG3
        clear hgrow hown' hat' hG3
        obtain ⟨ao', cap', rfl⟩ := hown2.shape
        go_wp2_with fail
        go_roundg (gk - 1)
        case measure => omega
        case rel =>
          exact ⟨k + 1, m + 1, acc ++ [0], by go_num, by congr 1; omega, (by show _ = _; rw [hm.out]; omega), by have := hm.out; omega, by omega, by omega, (by show _ = _; rw [hA.out, zrep_succ]; simp), by rw [List.length_append]; simp; omega, hown2, hG4⟩
      · have hd : decide (k < least) = false := by simp; omega
        have hr : ((m : Int) % 4 == 0) = false := by rw [beq_eq_false_iff_ne]; omega
        have hr2 : ((m : Int) % 4 != 0) = true := by rw [bne_iff_ne]; omega
        clear ht1 ht2
        go_wp2_with (at_builtin; refine wpList_append_src _ rfl _ _ 26 26 rfl base 5 i0 (.int .u8 0) 1 1 Tryz.underlying26 hi hz0 hz1 hz2 rfl _ acc.length (Lib.byteCells acc) rfl (by exact World.ownsRow.alloc hown _) _ rfl 1 [.int .u8 0] ?e1 ?e2 ?e3 ?e4 ?_)
        case e1 => exact Src.ofSlice _ Tryz.underlying26 _ 1 1 _ rfl (new_cells _ _ _ _ rfl _ rfl) (fun u hu => by simp at hu; rcases hu with rfl; rfl)
        case e2 => unfold maxLen; omega
        case e3 => omega
        case e4 => first | omega | (simp; omega)
        intro v' w3 hown' hgrow hat'
        have hG3 : Grew wr w3 (.slice ao acc.length co) v' := (Grew.of (by exact hgrow) (hat'.imp id (fun e => by rw [e]; simp))).fresh ((Below.refl _ wr).alloc (Nat.le_refl _) _)
        have hown2 : Bts w3 base v' (acc ++ [0]) := by
          unfold Bts
          rw [show Lib.byteCells (acc ++ [0]) = Lib.byteCells acc ++ [.int .u8 0] from by simp [Lib.byteCells], List.length_append]
          exact hown'
        have hG4 := hG.trans hG3
        clear hgrow hown' hat' hG3
        obtain ⟨ao', cap', rfl⟩ := hown2.shape
        go_wp2_with fail
        go_roundg (gk - 1)
        case measure => omega
        case rel =>
          exact ⟨k + 1, m + 1, acc ++ [0], by go_num, by congr 1; omega, (by show _ = _; rw [hm.out]; omega), by have := hm.out; omega, by omega, by omega, (by show _ = _; rw [hA.out, zrep_succ]; simp), by rw [List.length_append]; simp; omega, hown2, hG4⟩
    · have hkz : k = Z := by omega
      subst hkz
      have ht := hZf.out
      rw [← hm.out] at ht
      obtain ⟨ht1, ht2⟩ := ht
      have hd : decide (k < least) = false := by simp; omega
      have hr : ((m : Int) % 4 == 0) = true := by rw [beq_iff_eq]; omega
      have hr2 : ((m : Int) % 4 != 0) = false := by simp; omega
      have hfin := Lib.hid (show acc = l ++ padT least s.data.toList from by
        rw [hA.out, HZ.out, HL1.out, List.append_assoc]; unfold padT zrep; rw [hsl])
      clear ht1 ht2
      go_wp2_with fail
      go_ret
      exact ⟨_, rfl, by rw [← hfin.out]; exact hown, hG⟩
end Go.Proofs.YtofhcgbihonckaaGreatDoor

namespace Go.Proofs.YtofhcgbihonckaaGreatDoor
open Go.RowKit Go.ChangeMaps

def numsT (N : List ByteArray) : List (ByteArray × Int) := N.map fun n => (n, (plcB N n : Int))
theorem plcB_new : ∀ (N : List ByteArray) (s : ByteArray), s ∉ N → ∀ M, plcB (N ++ s :: M) s = (strsT N).length := by
  intro N
  induction N with
  | nil => intro s _ M; simp [plcB, strsT]
  | cons a N ih =>
    intro s h M
    have h1 : a ≠ s := fun e => h (by simp [e])
    rw [List.cons_append, plcB, if_neg h1, ih s (fun e => h (by simp [e])) M, strsT_cons, List.length_append, List.length_cons]
    have : a.data.toList.length = a.size := Array.length_toList
    omega
theorem numsT_new {N : List ByteArray} {s : ByteArray} (h : s ∉ N) : numsT (N ++ [s]) = numsT N ++ [(s, ((strsT N).length : Int))] := by
  unfold numsT
  rw [List.map_append]
  congr 1
  · exact List.map_congr_left fun n hn => by rw [plcB_app N [s] n hn]
  · simp only [List.map_cons, List.map_nil]
    rw [plcB_new N s h []]
theorem numsT_names (N : List ByteArray) : (numsT N).map (·.1) = N := by
  unfold numsT; rw [List.map_map]; exact List.map_id N
theorem numOf_yes {N : List ByteArray} (hd : N.Nodup) {s : ByteArray} (h : s ∈ N) : numOf (numsT N) s = ((plcB N s : Int), true) := by
  unfold numOf numsT
  rw [List.find?_map]
  have : N.find? ((fun p : ByteArray × Int => decide (p.1 = s)) ∘ fun n => (n, (plcB N n : Int))) = some s := by
    obtain ⟨i, hi, rfl⟩ := List.getElem_of_mem h
    rw [List.find?_eq_some_iff_getElem]
    refine ⟨by simp, i, hi, rfl, fun j hj => ?_⟩
    have := List.pairwise_iff_getElem.1 hd j i (by omega) hi hj
    simpa using this
  rw [this]; rfl
theorem numOf_no {N : List ByteArray} {s : ByteArray} (h : s ∉ N) : numOf (numsT N) s = (0, false) := by
  unfold numOf numsT
  rw [List.find?_map]
  have : N.find? ((fun p : ByteArray × Int => decide (p.1 = s)) ∘ fun n => (n, (plcB N n : Int))) = none := by
    rw [List.find?_eq_none]
    intro x hx
    simp only [Function.comp, decide_eq_true_eq]
    rintro rfl
    exact h hx
  rw [this]; rfl
/-- The writer in memory. -/
structure WrAt (w : World) (base wb mb : Nat) (sv tv : Value) (st : List UInt8) (N : List ByteArray) : Prop where
  holds : Holds w wb #[sv, tv, .map (some mb)] 102
  s : Bts w base sv st
  t : Bts w base tv (strsT N)
  m : NumsAt w mb (numsT N)
  nd : N.Nodup
  ap : ∀ g, sv.ownBlock = some g → tv.ownBlock ≠ some g
  lb : base ≤ wb ∧ base ≤ mb
theorem bts_holds {w : World} {base : Nat} {v : Value} {l : List UInt8} (h : Bts w base v l) {g : Nat} (hg : v.ownBlock = some g) : base ≤ g ∧ ∃ cs, Holds w g cs 5 := by
  have h' : w.ownsRow base 5 1 v l.length (Lib.byteCells l) := h
  rcases h'.2 with ⟨rfl, _⟩ | ⟨g', cap, cur, rfl, hb, hh, _⟩
  · simp [Value.ownBlock] at hg
  · obtain rfl : g' = g := Option.some.inj hg
    exact ⟨hb, _, hh⟩
theorem bts_not {w : World} {base : Nat} {v : Value} {l : List UInt8} (h : Bts w base v l) {b : Nat} {cs : Array Value} {t : TypeId} (hb : Holds w b cs t) (ht : t ≠ 5) : v.ownBlock ≠ some b := by
  intro hg
  obtain ⟨_, xs, hx⟩ := bts_holds h hg
  have h1 : w.heap[b]? = some (.cells xs 5 (0, 0)) := hx
  have h2 : w.heap[b]? = some (.cells cs t (0, 0)) := hb
  rw [h1] at h2
  cases h2
  exact ht rfl
theorem bts_not_map {w : World} {base : Nat} {v : Value} {l : List UInt8} (h : Bts w base v l) {b : Nat} {m : List (ByteArray × Int)} (hb : NumsAt w b m) : v.ownBlock ≠ some b := by
  intro hg
  obtain ⟨_, xs, hx⟩ := bts_holds h hg
  obtain ⟨es, c, h2, _⟩ := hb
  have h1 : w.heap[b]? = some (.cells xs 5 (0, 0)) := hx
  rw [h1] at h2
  cases h2
theorem holds_not_map {w : World} {b c : Nat} {cs : Array Value} {t : TypeId} {m : List (ByteArray × Int)} (h : Holds w c cs t) (hb : NumsAt w b m) : c ≠ b := by
  rintro rfl
  obtain ⟨es, k, h2, _⟩ := hb
  have h1 : w.heap[c]? = some (.cells cs t (0, 0)) := h
  rw [h1] at h2
  cases h2
theorem holds_apart2 {w : World} {b c : Nat} {xs ys : Array Value} {t u : TypeId} (h : Holds w b xs t) (k : Holds w c ys u) (hne : t ≠ u) : b ≠ c := by
  rintro rfl
  have h1 : w.heap[b]? = some (.cells xs t (0, 0)) := h
  have h2 : w.heap[b]? = some (.cells ys u (0, 0)) := k
  rw [h1] at h2
  cases h2
  exact hne rfl
theorem WrAt.keeps {S : Nat → Prop} {w w' : World} {base wb mb : Nat} {sv tv : Value} {st : List UInt8} {N : List ByteArray} (h : WrAt w base wb mb sv tv st N) (k : Keeps S w w') (h1 : ¬ S wb) (h2 : ¬ S mb) (h3 : ∀ g, sv.ownBlock = some g → ¬ S g) (h4 : ∀ g, tv.ownBlock = some g → ¬ S g) : WrAt w' base wb mb sv tv st N :=
  ⟨h.holds.keeps k h1, h.s.keeps k h3, h.t.keeps k h4, h.m.keeps k h2, h.nd, h.ap, h.lb⟩
/-- Other blocks than those of the writer. -/
theorem WrAt.other {w w' : World} {base wb mb b : Nat} {sv tv : Value} {st : List UInt8} {N : List ByteArray} (h : WrAt w base wb mb sv tv st N) {xs : Array Value} {t : TypeId} (hb : Holds w b xs t) (ht : t ≠ 102) (hu : t ≠ 5) (k : Keeps (· = b) w w') : WrAt w' base wb mb sv tv st N :=
  h.keeps k (fun e => holds_apart2 h.holds hb (fun e => ht e.symm) e) (fun e => holds_not_map hb h.m e.symm) (fun g hg e => bts_not h.s hb hu (by rw [hg, e])) (fun g hg e => bts_not h.t hb hu (by rw [hg, e]))
/-- The structure has grown. -/
theorem WrAt.grew {w w' : World} {base wb mb : Nat} {sv tv sv' : Value} {st st' : List UInt8} {N : List ByteArray} (h : WrAt w base wb mb sv tv st N) (hG : Grew w w' sv sv') (hb : Bts w' base sv' st') : WrAt (w'.setCell ⟨wb, 0, none⟩ sv') base wb mb sv' tv st' N := by
  have hn1 := bts_not h.s h.holds (by decide)
  have hn2 := bts_not_map h.s h.m
  have hH := h.holds.keeps hG.1 hn1
  have hT := h.t.keeps hG.1 (fun g hg e => h.ap g e hg)
  have hM := h.m.keeps hG.1 hn2
  have kst : Keeps (· = wb) w' (w'.setCell ⟨wb, 0, none⟩ sv') := (Keeps.refl (· = wb) w').setCell (p := ⟨wb, 0, none⟩) (.inr rfl) _
  refine ⟨hH.set 0 sv', hb.keeps kst (fun g hg e => bts_not hb hH (by decide) (by rw [hg, e])), hT.keeps kst (fun g hg e => bts_not hT hH (by decide) (by rw [hg, e])), hM.keeps kst (fun e => holds_not_map hH hM e.symm), h.nd, ?_, h.lb⟩
  intro g hg e
  rcases hG.2 g hg with k | k
  · exact h.ap g k e
  · obtain ⟨_, xs, hx⟩ := bts_holds h.t e
    have := hx.lt
    omega
def NmPost (base wb mb : Nat) (sv tv : Value) (st : List UInt8) (N : List ByteArray) (s : ByteArray) (w : World) (e : Ending) (w' : World) : Prop :=
  ∃ tv', e = .returned (.int .i64 (plcB (addN N s) s)) ∧ WrAt w' base wb mb sv tv' st (addN N s) ∧ Keeps (fun g => g = wb ∨ g = mb ∨ tv.ownBlock = some g) w w' ∧ (∀ g, tv'.ownBlock = some g → tv.ownBlock = some g ∨ w.heap.size ≤ g)
set_option maxRecDepth 100000 in
set_option maxHeartbeats 2000000 in
theorem blob_name (base wb mb : Nat) (sv tv : Value) (st : List UInt8) (N : List ByteArray) (s : ByteArray) (w : World) (h : WrAt w base wb mb sv tv st N) (hs : s.size ≤ 1000) (hl : (strsT N).length ≤ 1000000000) (hbase : base ≤ w.heap.size) :
    Calls Tryz.prog 65 #[.pointer (some ⟨wb, 0, none⟩), .string s] w (NmPost base wb mb sv tv st N s w) := by
  have c0 : w.cell? ⟨wb, 0, none⟩ = some sv := h.holds.cell 0
  have c1 : w.cell? ⟨wb, 1, none⟩ = some tv := h.holds.cell 1
  have c2 : w.cell? ⟨wb, 2, none⟩ = some (.map (some mb)) := h.holds.cell 2
  have hwl := h.holds.lt
  have hlk := h.m.look (by rw [numsT_names]; exact h.nd) s (by unfold maxLen; omega)
  obtain ⟨ta, tc, rfl⟩ := h.t.shape
  obtain ⟨sa, sc, rfl⟩ := h.s.shape
  by_cases hm : s ∈ N
  · have hA : addN N s = N := by unfold addN; rw [if_pos (hasN_iff.2 hm)]
    rw [numOf_yes h.nd hm] at hlk
    have HW := Lib.hid h
    have HA := Lib.hid hA
    clear h hA
    go_enter Tryz.func65, Tryz.ntmps65
    go_wp2_with fail
    go_ret
    exact ⟨_, by rw [HA.out]; rfl, by rw [HA.out]; exact HW.out, Keeps.refl _ _, fun g e => .inl e⟩
  · have hA : addN N s = N ++ [s] := by unfold addN; rw [if_neg (fun e => hm (hasN_iff.1 e))]
    rw [numOf_no hm] at hlk
    obtain ⟨mo, hrun, hm1⟩ := h.m.put s ((strsT N).length : Int) (by omega) (fun p hp => by
      unfold numsT at hp
      obtain ⟨n, hn, rfl⟩ := List.mem_map.1 hp
      rintro rfl
      exact hm hn)
    rw [← numsT_new hm] at hm1
    have k1 : Keeps (· = mb) w (setBlock w mb mo) := (Keeps.refl _ w).putI mo (.inr rfl)
    have hsl : s.data.toList.length = s.size := Array.length_toList
    have hnm := holds_not_map h.holds h.m
    have hH1 := h.holds.keeps k1 hnm
    have hS1 := h.s.keeps k1 (fun g hg e => bts_not_map h.s h.m (by rw [hg, e]))
    have hT1 := h.t.keeps k1 (fun g hg e => bts_not_map h.t h.m (by rw [hg, e]))
    have d0 : (setBlock w mb mo).cell? ⟨wb, 0, none⟩ = some (.slice sa st.length sc) := hH1.cell 0
    have d1 : (setBlock w mb mo).cell? ⟨wb, 1, none⟩ = some (.slice ta (strsT N).length tc) := hH1.cell 1
    have d2 : (setBlock w mb mo).cell? ⟨wb, 2, none⟩ = some (.map (some mb)) := hH1.cell 2
    have hb1 : base ≤ (setBlock w mb mo).heap.size := Nat.le_trans hbase k1.size
    have hwl1 : wb < (setBlock w mb mo).heap.size := hH1.lt
    have HK1 := Lib.hid k1
    have HW := Lib.hid h
    have HA := Lib.hid hA
    have HM1 := Lib.hid hm1
    have HS1 := Lib.hid hS1
    have HH1 := Lib.hid hH1
    have HSL := Lib.hid hsl
    obtain ⟨w1, hw1⟩ : ∃ w1, w1 = setBlock w mb mo := ⟨_, rfl⟩
    rw [← hw1] at hrun d0 d1 d2 hb1 hwl1 HK1 HM1 HS1 HH1 hT1
    have HPL := Lib.hid (plcB_new N s hm [])
    clear h hA hm1 k1 hS1 hH1 hsl hw1 hm
    obtain ⟨i0, hi, hz0, hz1, hz2⟩ := info_parts infoByte
    go_enter Tryz.func65, Tryz.ntmps65
    go_wp2_with (at_builtin; refine wpList_append_src _ rfl _ _ 26 9 rfl base 5 i0 (.int .u8 0) 1 1 Tryz.underlying26 hi hz0 hz1 hz2 rfl _ (strsT N).length (Lib.byteCells (strsT N)) rfl (by exact hT1) _ rfl s.size (Lib.byteCells s.data.toList) ?c1 ?c2 ?c3 ?c4 ?_)
    case c1 => exact text_src _ s
    case c2 => unfold maxLen; omega
    case c3 => omega
    intro v2 w2 hown2 hgrow2 hat2
    have hG2 : Grew w1 w2 (.slice ta (strsT N).length tc) v2 := Grew.of hgrow2 hat2
    obtain ⟨l2, hl2⟩ : ∃ l2, l2 = strsT N ++ s.data.toList := ⟨_, rfl⟩
    have hb2 : Bts w2 base v2 l2 := by
      unfold Bts
      rw [hl2, show Lib.byteCells (strsT N ++ s.data.toList) = Lib.byteCells (strsT N) ++ Lib.byteCells s.data.toList from by simp [Lib.byteCells], List.length_append, HSL.out]
      exact hown2
    have hl2n : l2.length ≤ 2000000000 := by rw [hl2, List.length_append, HSL.out]; omega
    have HL2 := Lib.hid hl2
    have hs2 := hG2.1.size
    clear hown2 hgrow2 hat2 hl2
    obtain ⟨a2, q2, rfl⟩ := hb2.shape
    go_wp2_with (at_builtin; refine wpList_append_src _ rfl _ _ 26 26 rfl base 5 i0 (.int .u8 0) 1 1 Tryz.underlying26 hi hz0 hz1 hz2 rfl _ l2.length (Lib.byteCells l2) rfl (by exact World.ownsRow.alloc hb2 _) _ rfl 1 [.int .u8 0] ?d1 ?d2 ?d3 ?d4 ?_)
    case d1 => exact Src.ofSlice _ Tryz.underlying26 _ 1 1 _ rfl (new_cells _ _ _ _ rfl _ rfl) (fun u hu => by simp at hu; rcases hu with rfl; rfl)
    case d2 => unfold maxLen; omega
    case d3 => omega
    case d4 => first | omega | (simp; omega)
    intro v3 w3 hown3 hgrow3 hat3
    have hG3 : Grew w2 w3 (.slice a2 l2.length q2) v3 := (Grew.of (by exact hgrow3) (hat3.imp id (fun e => by rw [e]; simp))).fresh ((Below.refl _ w2).alloc (Nat.le_refl _) _)
    have hb3 : Bts w3 base v3 (strsT (N ++ [s])) := by
      rw [strsT_app, strsT_cons, show strsT N ++ (s.data.toList ++ 0 :: strsT []) = l2 ++ [0] from by rw [HL2.out]; simp [strsT]]
      unfold Bts
      rw [show Lib.byteCells (l2 ++ [0]) = Lib.byteCells l2 ++ [.int .u8 0] from by simp [Lib.byteCells], List.length_append]
      exact hown3
    have hG := hG2.trans hG3
    have hs3 := hG3.1.size
    clear hown3 hgrow3 hat3 hG3 hG2
    have htn : Value.ownBlock (.slice ta (strsT N).length tc) ≠ some wb := bts_not hT1 HH1.out (by decide)
    have htm : Value.ownBlock (.slice ta (strsT N).length tc) ≠ some mb := bts_not_map hT1 HM1.out
    have hH3 := HH1.out.keeps hG.1 htn
    have hM3 := HM1.out.keeps hG.1 htm
    have hS3 := HS1.out.keeps hG.1 (fun g hg => HW.out.ap g hg)
    have e0 : w3.cell? ⟨wb, 1, none⟩ = some (.slice ta (strsT N).length tc) := hH3.cell 1
    have e0f := hH3.free 1
    obtain ⟨a3, q3, rfl⟩ := hb3.shape
    have kst : Keeps (· = wb) w3 (w3.setCell ⟨wb, 1, none⟩ (.slice a3 (strsT (N ++ [s])).length q3)) := (Keeps.refl (· = wb) w3).setCell (p := ⟨wb, 1, none⟩) (.inr rfl) _
    have hb3n : Value.ownBlock (.slice a3 (strsT (N ++ [s])).length q3) ≠ some wb := bts_not hb3 hH3 (by decide)
    have hS3n : Value.ownBlock (.slice sa st.length sc) ≠ some wb := bts_not hS3 hH3 (by decide)
    have hmn : wb ≠ mb := holds_not_map hH3 hM3
    have hap : ∀ g, Value.ownBlock (.slice sa st.length sc) = some g → Value.ownBlock (.slice a3 (strsT (N ++ [s])).length q3) ≠ some g := by
      intro g hg e
      rcases hG.2 g e with e | e
      · exact HW.out.ap g hg e
      · have := (bts_holds HS1.out hg).2
        obtain ⟨xs, hx⟩ := this
        have := hx.lt
        omega
    have HF := Lib.hid (show WrAt (w3.setCell ⟨wb, 1, none⟩ (.slice a3 (strsT (N ++ [s])).length q3)) base wb mb (.slice sa st.length sc) (.slice a3 (strsT (N ++ [s])).length q3) st (N ++ [s]) from
      ⟨hH3.set 1 _, hS3.keeps kst (fun g hg e => hS3n (by rw [hg, e])), hb3.keeps kst (fun g hg e => hb3n (by rw [hg, e])), hM3.keeps kst (fun e => hmn e.symm), by
        rw [List.nodup_append]; exact ⟨HW.out.nd, by simp, fun x hx y hy e => by
          rw [List.mem_singleton] at hy; subst e; subst hy
          exact absurd (hasN_iff.2 hx) (by
            have := HA.out; unfold addN at this
            intro hh; rw [if_pos hh] at this
            have := congrArg List.length this; simp at this)⟩, hap, HW.out.lb⟩)
    have HK := Lib.hid (show Keeps (fun g => g = wb ∨ g = mb ∨ Value.ownBlock (.slice ta (strsT N).length tc) = some g) w (w3.setCell ⟨wb, 1, none⟩ (.slice a3 (strsT (N ++ [s])).length q3)) from
      ((HK1.out.mono (fun i _ e => .inr (.inl e))).trans hG.1 (fun i _ e => .inr (.inr e))).trans kst (fun i _ e => .inl e))
    have HO := Lib.hid (show ∀ g, Value.ownBlock (.slice a3 (strsT (N ++ [s])).length q3) = some g → Value.ownBlock (.slice ta (strsT N).length tc) = some g ∨ w.heap.size ≤ g from
      fun g hg => (hG.2 g hg).imp id (fun e => Nat.le_trans HK1.out.size e))
    clear hS3 hM3 hH3 hb3 hG kst hb3n hS3n hmn hap htn htm hT1 hb2
    go_wp2_with fail
    go_ret
    exact ⟨_, by rw [HA.out, HPL.out]; rfl, by rw [HA.out]; exact HF.out, HK.out, HO.out⟩
end Go.Proofs.YtofhcgbihonckaaGreatDoor

namespace Go.Proofs.YtofhcgbihonckaaGreatDoor
open Go.RowKit
open Go.ChangeMaps
noncomputable def bcOps : Array Oper := (regOps (Tryz.f62.body.getD .skip) 2).getD #[]
theorem bcR : inRow2 .any bcOps = true := by kernel_rfl
theorem bcRa : apartB bcOps = true := by kernel_rfl
theorem bcRn : bcOps.size = 10 := by kernel_rfl
def BcF (_ _ wb _ : Nat) (sv _ : Value) (_ _ : List UInt8) (_ : List ByteArray) (nB : Nat) (sv2 : Value) (j : Nat) : Value → World → Prop := match j with
  | 0 => fun u _ => u = .pointer (some ⟨wb, 0, none⟩)
  | 1 => fun u _ => u = .pointer (some ⟨wb, 0, none⟩)
  | 2 => fun u _ => u = .pointer (some ⟨wb, 0, none⟩)
  | 3 => fun u _ => u = .pointer (some ⟨wb, 0, none⟩)
  | 4 => fun u _ => u = sv
  | 5 => fun u _ => u = .slice (some ⟨nB, 0, none⟩) 1 1
  | 6 => fun u _ => u = sv2
  | 7 => fun u _ => u = .pointer (some ⟨wb, 0, none⟩)
  | 8 => fun u _ => u = .pointer (some ⟨wb, 0, none⟩)
  | _ => fun _ _ => True
/-- What holds until the chain's end. -/
def BcC (_ vb wb mb : Nat) (sv tv : Value) (_ _ : List UInt8) (_ : List ByteArray) (_ w : World) : Prop := (Holds w vb #[.pointer (some ⟨wb, 0, none⟩)] 99) ∧ Holds w wb #[sv, tv, .map (some mb)] 102
/-- Where the chain stands. -/
def BcE (base _ wb _ : Nat) (sv _ : Value) (_ st2 : List UInt8) (_ : List ByteArray) (nB : Nat) (sv2 : Value) (W w : World) (l : Array Bool) : Prop :=
  if l.getD 5 false = false then (Keeps (fun _ => False) W w) else
  if l.getD 6 false = false then (Keeps (fun _ => False) W w ∧ Holds w nB #[.int .i64 2] 3 ∧ W.heap.size ≤ nB) else
  if l.getD 9 false = false then (Bts w base sv2 st2 ∧ Grew W w sv sv2) else
  ∃ w3, w = w3.setCell ⟨wb, 0, none⟩ sv2 ∧ Bts w3 base sv2 st2 ∧ Grew W w3 sv sv2
section
variable {base vb wb mb : Nat} {sv tv : Value} {st st2 : List UInt8} {N : List ByteArray} {nB : Nat} {sv2 : Value} {W w : World} {l : Array Bool}
theorem BcE.other {j : Nat} (h : BcE base vb wb mb sv tv st st2 N nB sv2 W w l) (n0 : j ≠ 5) (n1 : j ≠ 6) (n2 : j ≠ 9) : BcE base vb wb mb sv tv st st2 N nB sv2 W w (l.setIfInBounds j true) := by
  unfold BcE at h ⊢
  rw [set_other n0, set_other n1, set_other n2]
  exact h
theorem BcE.at0 (h : BcE base vb wb mb sv tv st st2 N nB sv2 W w l)  (no : l.getD 5 false = false) : Keeps (fun _ => False) W w := by
  unfold BcE at h
  rw [no, if_pos rfl] at h
  exact h
theorem BcE.to0  (hs : 5 < l.size) (no : l.getD 6 false = false) (h : Keeps (fun _ => False) W w ∧ Holds w nB #[.int .i64 2] 3 ∧ W.heap.size ≤ nB) : BcE base vb wb mb sv tv st st2 N nB sv2 W w (l.setIfInBounds 5 true) := by
  unfold BcE
  rw [set_here hs, if_neg (by simp)]
  rw [set_other (show 5 ≠ 6 by decide), no, if_pos rfl]
  exact h
theorem BcE.at1 (h : BcE base vb wb mb sv tv st st2 N nB sv2 W w l) (y0 : l.getD 5 false = true) (no : l.getD 6 false = false) : Keeps (fun _ => False) W w ∧ Holds w nB #[.int .i64 2] 3 ∧ W.heap.size ≤ nB := by
  unfold BcE at h
  rw [y0, if_neg (by simp)] at h
  rw [no, if_pos rfl] at h
  exact h
theorem BcE.to1 (y0 : l.getD 5 false = true) (hs : 6 < l.size) (no : l.getD 9 false = false) (h : Bts w base sv2 st2 ∧ Grew W w sv sv2) : BcE base vb wb mb sv tv st st2 N nB sv2 W w (l.setIfInBounds 6 true) := by
  unfold BcE
  rw [set_other (show 6 ≠ 5 by decide), y0, if_neg (by simp)]
  rw [set_here hs, if_neg (by simp)]
  rw [set_other (show 6 ≠ 9 by decide), no, if_pos rfl]
  exact h
theorem BcE.at2 (h : BcE base vb wb mb sv tv st st2 N nB sv2 W w l) (y0 : l.getD 5 false = true) (y1 : l.getD 6 false = true) (no : l.getD 9 false = false) : Bts w base sv2 st2 ∧ Grew W w sv sv2 := by
  unfold BcE at h
  rw [y0, if_neg (by simp)] at h
  rw [y1, if_neg (by simp)] at h
  rw [no, if_pos rfl] at h
  exact h
theorem BcE.to2 (y0 : l.getD 5 false = true) (y1 : l.getD 6 false = true) (hs : 9 < l.size) (h : ∃ w3, w = w3.setCell ⟨wb, 0, none⟩ sv2 ∧ Bts w3 base sv2 st2 ∧ Grew W w3 sv sv2) : BcE base vb wb mb sv tv st st2 N nB sv2 W w (l.setIfInBounds 9 true) := by
  unfold BcE
  rw [set_other (show 9 ≠ 5 by decide), y0, if_neg (by simp)]
  rw [set_other (show 9 ≠ 6 by decide), y1, if_neg (by simp)]
  rw [set_here hs, if_neg (by simp)]
  exact h
theorem BcF.ghost0 {nB' : Nat} {j : Nat} {u : Value} (h : BcF base vb wb mb sv tv st st2 N nB sv2 j u w) (n0 : j ≠ 5) : BcF base vb wb mb sv tv st st2 N nB' sv2 j u w := by
  unfold BcF at *
  split at h
  all_goals first
    | exact h
    | exact absurd rfl n0
theorem BcF.ghost1 {sv2' : Value} {j : Nat} {u : Value} (h : BcF base vb wb mb sv tv st st2 N nB sv2 j u w) (n0 : j ≠ 6) : BcF base vb wb mb sv tv st st2 N nB sv2' j u w := by
  unfold BcF at *
  split at h
  all_goals first
    | exact h
    | exact absurd rfl n0
theorem BcF.world {j : Nat} {u : Value} {w' : World} (h : BcF base vb wb mb sv tv st st2 N nB sv2 j u w) : BcF base vb wb mb sv tv st st2 N nB sv2 j u w' := by
  unfold BcF at *
  split at h
  all_goals exact h
end

set_option maxHeartbeats 8000000 in
set_option maxRecDepth 100000 in
theorem bc_region2 {Q : Exit → Act → World → Prop} (base vb wb mb : Nat) (sv tv : Value) (st st2 : List UInt8) (N : List ByteArray) (W w : World) (A : Act) (hsz : A.tmps.size = 31) (hW : WrAt W base wb mb sv tv st N) (hst : st.length ≤ 900000000) (hst2 : Hid (st2 = st ++ b4 2)) (hbase : base ≤ W.heap.size)
    (a2 : A.tmps.getD 2 undef = .pointer (some ⟨vb, 0, none⟩)) (hC0 : BcC base vb wb mb sv tv st st2 N W w) (hE0 : Keeps (fun _ => False) W w)
    (hQ : ∀ c w' (nB : Nat) (sv2 : Value), SameBut bcOps A c → (∃ w3, w' = w3.setCell ⟨wb, 0, none⟩ sv2 ∧ Bts w3 base sv2 st2 ∧ Grew W w3 sv sv2) → Q .normal c w') :
    wpAny Tryz.prog .any bcOps Q bcOps.size (Array.replicate bcOps.size false) A w := by
  refine wpAny_inv2 (fun l c wx => ∃ nB sv2, RInvF bcOps A (BcF base vb wb mb sv tv st st2 N nB sv2) (fun _ => True) l c wx ∧ (l.getD 9 false = false → BcC base vb wb mb sv tv st st2 N W wx) ∧ BcE base vb wb mb sv tv st st2 N nB sv2 W wx l) bcR ?hend ?hstep _ _ _ _ (by simp) (by simp) ⟨0, .slice none 0 0, RInvF.start trivial, fun _ => hC0, by unfold BcE; rw [if_pos (rep_no _ _)]; exact hE0⟩
  case hend =>
    rintro l c wx ⟨nB, sv2, hI, hC, hE⟩ hl
    have hh : ∀ k, k < 10 → l.getD k false = true := fun k hk => hl k (by rw [bcRn]; exact hk)
    have hEm : ∃ w3, wx = w3.setCell ⟨wb, 0, none⟩ sv2 ∧ Bts w3 base sv2 st2 ∧ Grew W w3 sv sv2 := by
      unfold BcE at hE
      rw [hh 5 (by decide), if_neg (by simp)] at hE
      rw [hh 6 (by decide), if_neg (by simp)] at hE
      rw [hh 9 (by decide), if_neg (by simp)] at hE
      exact hE
    exact hQ c wx nB sv2 hI.1.1  hEm
  intro l c wx hIx i' op ho hl hall K' hK'
  obtain ⟨nB, sv2, hI, hC, hE⟩ := hIx
  have hls : l.size = 10 := by rw [hI.1.2.2.1.1, bcRn]
  have hi' : i' < 10 := by rw [← bcRn]; exact (Array.getElem?_eq_some_iff.1 ho).1
  have ho2 := ho
  simp only [bcOps, regOps, Tryz.f62, Option.getD_some, reduceIte, Nat.reduceEqDiff] at ho
  have s2 := (hI.slot 2 (by kernel_rfl)).trans a2
  have fs := And.intro True.intro True.intro
  simp only [Array.getD_eq_getD_getElem?] at s2
  have hic : i' = 0 ∨ i' = 1 ∨ i' = 2 ∨ i' = 3 ∨ i' = 4 ∨ i' = 5 ∨ i' = 6 ∨ i' = 7 ∨ i' = 8 ∨ i' = 9 := by omega
  clear hi'
  rcases hic with rfl | rfl | rfl | rfl | rfl | rfl | rfl | rfl | rfl | rfl
  all_goals cases ho
  · have hc := hC (hI.1.2.2.1.2.no_far 10 hl (by kernel_rfl : farB bcOps 10 9 0 = true))
    have x0 := hc.1.cell 0
    go_simp
    exact hK' _ _ ⟨nB, sv2, hI.step bcRa 0 22 rfl (by rw [hsz]; decide) _ _ ho2 hall trivial (fun _ _ h => h) rfl, (fun h => hC (listed_set h)), hE.other (by decide) (by decide) (by decide)⟩
  · have hc := hC (hI.1.2.2.1.2.no_far 10 hl (by kernel_rfl : farB bcOps 10 9 1 = true))
    have x0 := hc.1.cell 0
    go_simp
    exact hK' _ _ ⟨nB, sv2, hI.step bcRa 1 23 rfl (by rw [hsz]; decide) _ _ ho2 hall trivial (fun _ _ h => h) rfl, (fun h => hC (listed_set h)), hE.other (by decide) (by decide) (by decide)⟩
  · have e1 : c.tmps.getD 23 undef = .pointer (some ⟨wb, 0, none⟩) := hI.fact 1 23 rfl (hI.1.2.2.1.2.yes_far 10 ho2 hall (by decide) (by kernel_rfl))
    have f1 := e1
    simp only [Array.getD_eq_getD_getElem?] at e1
    go_simp
    exact hK' _ _ ⟨nB, sv2, hI.step bcRa 2 24 rfl (by rw [hsz]; decide) _ _ ho2 hall trivial (fun _ _ h => h) rfl, (fun h => hC (listed_set h)), hE.other (by decide) (by decide) (by decide)⟩
  · have e2 : c.tmps.getD 24 undef = .pointer (some ⟨wb, 0, none⟩) := hI.fact 2 24 rfl (hI.1.2.2.1.2.yes_far 10 ho2 hall (by decide) (by kernel_rfl))
    have f2 := e2
    simp only [Array.getD_eq_getD_getElem?] at e2
    go_simp
    exact hK' _ _ ⟨nB, sv2, hI.step bcRa 3 25 rfl (by rw [hsz]; decide) _ _ ho2 hall trivial (fun _ _ h => h) rfl, (fun h => hC (listed_set h)), hE.other (by decide) (by decide) (by decide)⟩
  · have e3 : c.tmps.getD 25 undef = .pointer (some ⟨wb, 0, none⟩) := hI.fact 3 25 rfl (hI.1.2.2.1.2.yes_far 10 ho2 hall (by decide) (by kernel_rfl))
    have f3 := e3
    simp only [Array.getD_eq_getD_getElem?] at e3
    have hc := hC (hI.1.2.2.1.2.no_far 10 hl (by kernel_rfl : farB bcOps 10 9 4 = true))
    have x0 := hc.2.cell 0
    go_simp
    exact hK' _ _ ⟨nB, sv2, hI.step bcRa 4 26 rfl (by rw [hsz]; decide) _ _ ho2 hall trivial (fun _ _ h => h) rfl, (fun h => hC (listed_set h)), hE.other (by decide) (by decide) (by decide)⟩
  · have hc := hC (hI.1.2.2.1.2.no_far 10 hl (by kernel_rfl : farB bcOps 10 9 5 = true))
    have hp := hE.at0  hl
    have un := hI.1.2.2.1.2.no_far 10 hl (by kernel_rfl : farB bcOps 10 6 5 = true)
    have hp2 : Keeps (fun _ => False) W (wx.alloc (.cells #[.int .i64 2] 3)) ∧ Holds (wx.alloc (.cells #[.int .i64 2] 3)) wx.heap.size #[.int .i64 2] 3 ∧ W.heap.size ≤ wx.heap.size := ⟨hp.alloc _, Holds.new _ _ _, hp.size⟩
    have hc2 : BcC base vb wb mb sv tv st st2 N W (wx.alloc (.cells #[.int .i64 2] 3)) := ⟨hc.1.alloc _, hc.2.alloc _⟩
    go_simp
    have hJ : RInvF bcOps A (BcF base vb wb mb sv tv st st2 N (wx.heap.size) sv2) (fun _ => True) l c wx := ⟨hI.1.other (fun j hj u hF => BcF.ghost0 hF (yes_no hj hl)), hI.2⟩
    exact hK' _ _ ⟨wx.heap.size, _, hJ.step bcRa 5 27 rfl (by rw [hsz]; decide) _ _ ho2 hall trivial (fun _ _ h => BcF.world h) rfl, fun _ => hc2, BcE.to0  (by rw [hls]; decide) un hp2⟩
  · have e4 : c.tmps.getD 26 undef = sv := hI.fact 4 26 rfl (hI.1.2.2.1.2.yes_far 10 ho2 hall (by decide) (by kernel_rfl))
    have f4 := e4
    simp only [Array.getD_eq_getD_getElem?] at e4
    have e5 : c.tmps.getD 27 undef = .slice (some ⟨nB, 0, none⟩) 1 1 := hI.fact 5 27 rfl (hI.1.2.2.1.2.yes_far 10 ho2 hall (by decide) (by kernel_rfl))
    have f5 := e5
    simp only [Array.getD_eq_getD_getElem?] at e5
    have hc := hC (hI.1.2.2.1.2.no_far 10 hl (by kernel_rfl : farB bcOps 10 9 6 = true))
    have y0 : l.getD 5 false = true := hI.1.2.2.1.2.yes_far 10 ho2 hall (by decide) (by kernel_rfl)
    have hp := hE.at1 y0 hl
    have un := hI.1.2.2.1.2.no_far 10 hl (by kernel_rfl : farB bcOps 10 9 6 = true)
    obtain ⟨hp0, hpB, hpN⟩ := hp
    have hsn : ∀ b, sv.ownBlock = some b → Value.ownBlock (.slice (some ⟨nB, 0, none⟩) 1 1) ≠ some b := fun b hb e => by
      have e2 : nB = b := Option.some.inj e
      obtain ⟨xs, hx⟩ := (bts_holds hW.s hb).2
      have := hx.lt
      omega
    go_simp
    refine (blob_put base _ (.slice (some ⟨nB, 0, none⟩) 1 1) st [2] _ (hW.s.keeps hp0 (fun _ _ e => e)) (list_held (l := [2]) hpB) hsn (by simp) (by simp) (by omega) (Nat.le_trans hbase hp0.size)).mono ?_
    rintro e w2 ⟨sv3, rfl, hb3, hG3⟩
    go_simp
    have hp2 : Bts w2 base sv3 st2 ∧ Grew W w2 sv sv3 := ⟨by rw [hst2.out, ← bytes4_b4 2 (by omega)]; simpa [b4s] using hb3, hG3.after hp0⟩
    have hn1 := bts_not (hW.s.keeps hp0 (fun _ _ e => e)) hc.1 (by decide)
    have hn2 := bts_not (hW.s.keeps hp0 (fun _ _ e => e)) hc.2 (by decide)
    have hc2 : BcC base vb wb mb sv tv st st2 N W w2 := ⟨hc.1.keeps hG3.1 hn1, hc.2.keeps hG3.1 hn2⟩
    have hJ : RInvF bcOps A (BcF base vb wb mb sv tv st st2 N nB (sv3)) (fun _ => True) l c wx := ⟨hI.1.other (fun j hj u hF => BcF.ghost1 hF (yes_no hj hl)), hI.2⟩
    exact hK' _ _ ⟨_, sv3, hJ.step bcRa 6 28 rfl (by rw [hsz]; decide) _ _ ho2 hall trivial (fun _ _ h => BcF.world h) rfl, fun _ => hc2, BcE.to1 y0 (by rw [hls]; decide) un hp2⟩
  · have e0 : c.tmps.getD 22 undef = .pointer (some ⟨wb, 0, none⟩) := hI.fact 0 22 rfl (hI.1.2.2.1.2.yes_far 10 ho2 hall (by decide) (by kernel_rfl))
    have f0 := e0
    simp only [Array.getD_eq_getD_getElem?] at e0
    go_simp
    exact hK' _ _ ⟨nB, sv2, hI.step bcRa 7 29 rfl (by rw [hsz]; decide) _ _ ho2 hall trivial (fun _ _ h => h) rfl, (fun h => hC (listed_set h)), hE.other (by decide) (by decide) (by decide)⟩
  · have e7 : c.tmps.getD 29 undef = .pointer (some ⟨wb, 0, none⟩) := hI.fact 7 29 rfl (hI.1.2.2.1.2.yes_far 10 ho2 hall (by decide) (by kernel_rfl))
    have f7 := e7
    simp only [Array.getD_eq_getD_getElem?] at e7
    go_simp
    exact hK' _ _ ⟨nB, sv2, hI.step bcRa 8 30 rfl (by rw [hsz]; decide) _ _ ho2 hall trivial (fun _ _ h => h) rfl, (fun h => hC (listed_set h)), hE.other (by decide) (by decide) (by decide)⟩
  · have e6 : c.tmps.getD 28 undef = sv2 := hI.fact 6 28 rfl (hI.1.2.2.1.2.yes_far 10 ho2 hall (by decide) (by kernel_rfl))
    have f6 := e6
    simp only [Array.getD_eq_getD_getElem?] at e6
    have e8 : c.tmps.getD 30 undef = .pointer (some ⟨wb, 0, none⟩) := hI.fact 8 30 rfl (hI.1.2.2.1.2.yes_far 10 ho2 hall (by decide) (by kernel_rfl))
    have f8 := e8
    simp only [Array.getD_eq_getD_getElem?] at e8
    have hc := hC (hI.1.2.2.1.2.no_far 10 hl (by kernel_rfl : farB bcOps 10 9 9 = true))
    have y0 : l.getD 5 false = true := hI.1.2.2.1.2.yes_far 10 ho2 hall (by decide) (by kernel_rfl)
    have y1 : l.getD 6 false = true := hI.1.2.2.1.2.yes_far 10 ho2 hall (by decide) (by kernel_rfl)
    have hp := hE.at2 y0 y1 hl
    obtain ⟨a2, c2, rfl⟩ := hp.1.shape
    have x0 := hc.2.cell 0
    have x1 := hc.2.free 0
    have x2 := hc.2.lt
    go_simp
    have hp2 := (⟨_, rfl, hp.1, hp.2⟩ : ∃ w3, wx.setCell ⟨wb, 0, none⟩ (.slice a2 st2.length c2) = w3.setCell ⟨wb, 0, none⟩ (.slice a2 st2.length c2) ∧ Bts w3 base (.slice a2 st2.length c2) st2 ∧ Grew W w3 sv (.slice a2 st2.length c2))
    exact hK' _ _ ⟨_, _, hI.stepN 9 rfl _ ho2 hall trivial (fun _ _ h => BcF.world h) trivial, fun h => absurd h (by rw [set_here (by rw [hls]; decide)]; simp), BcE.to2 y0 y1 (by rw [hls]; decide) hp2⟩
end Go.Proofs.YtofhcgbihonckaaGreatDoor

namespace Go.Proofs.YtofhcgbihonckaaGreatDoor
open Go.RowKit Go.ChangeMaps

def opnCells (opn : List Nat) : List Value := opn.reverse.map fun o : Nat => .int .i64 (o : Int)
theorem opnCells_cons (o : Nat) (os : List Nat) : opnCells (o :: os) = opnCells os ++ [.int .i64 o] := by simp [opnCells]
theorem opnCells_len (opn : List Nat) : (opnCells opn).length = opn.length := by simp [opnCells]
/-- What encode has at hand. -/
structure EncAt (w : World) (base ob vb wb mb : Nat) (ov sv tv : Value) (opn : List Nat) (st : List UInt8) (N : List ByteArray) : Prop where
  o : Holds w ob #[ov] 22
  r : w.ownsRow base 3 1 ov opn.length (opnCells opn)
  v : Holds w vb #[.pointer (some ⟨wb, 0, none⟩)] 99
  wr : WrAt w base wb mb sv tv st N
  lb : base ≤ ob ∧ base ≤ vb
theorem row_not {w : World} {base n : Nat} {e : TypeId} {v : Value} {xs : List Value} (h : w.ownsRow base e 1 v n xs) {b : Nat} {cs : Array Value} {t : TypeId} (hb : Holds w b cs t) (ht : t ≠ e) : v.ownBlock ≠ some b := by
  intro hg
  rcases h.2 with ⟨rfl, _⟩ | ⟨g', cap, cur, rfl, _, hh, _⟩
  · simp [Value.ownBlock] at hg
  · obtain rfl : g' = b := Option.some.inj hg
    have h2 : w.heap[g']? = some (.cells cs t (0, 0)) := hb
    rw [hh] at h2
    cases h2
    exact ht rfl
theorem row_not_map {w : World} {base n : Nat} {e : TypeId} {v : Value} {xs : List Value} (h : w.ownsRow base e 1 v n xs) {b : Nat} {m : List (ByteArray × Int)} (hb : NumsAt w b m) : v.ownBlock ≠ some b := by
  intro hg
  rcases h.2 with ⟨rfl, _⟩ | ⟨g', cap, cur, rfl, _, hh, _⟩
  · simp [Value.ownBlock] at hg
  · obtain rfl : g' = b := Option.some.inj hg
    obtain ⟨es, k, h2, _⟩ := hb
    rw [hh] at h2
    cases h2
theorem holds_apart {w : World} {b c : Nat} {xs ys : Array Value} {t u : TypeId} (h : Holds w b xs t) (k : Holds w c ys u) (hne : t ≠ u) : b ≠ c := by
  rintro rfl
  have h1 : w.heap[b]? = some (.cells xs t (0, 0)) := h
  have h2 : w.heap[b]? = some (.cells ys u (0, 0)) := k
  rw [h1] at h2
  cases h2
  exact hne rfl
/-- The last open node. -/
theorem open_last {w : World} {base : Nat} {ov : Value} {o : Nat} {os : List Nat} (h : w.ownsRow base 3 1 ov (o :: os).length (opnCells (o :: os))) :
    ∃ g cap, ov = .slice (some ⟨g, 0, none⟩) (os.length + 1) cap ∧ os.length + 1 ≤ cap ∧ cap ≤ 9223372036854775807 ∧ base ≤ g ∧ g < w.heap.size ∧ w.cell? ⟨g, os.length, none⟩ = some (.int .i64 o) ∧ w.ownsRow base 3 1 (.slice (some ⟨g, 0, none⟩) os.length cap) os.length (opnCells os) := by
  have h0 := h
  rcases h.2 with ⟨_, hn⟩ | ⟨g, cap, cur, rfl, hb, hh, hcap, hm, _⟩
  · simp at hn
  · rw [opnCells_cons] at h0
    refine ⟨g, cap, rfl, hcap, by unfold maxLen at hm; exact hm, hb, lt_of_block hh, ?_, ownsRow_pop (by rw [opnCells_len]; omega) h0⟩
    have := h0.cells (g := g) rfl os.length (.int .i64 o) (by rw [List.getElem?_append_right (by rw [opnCells_len]; omega), opnCells_len]; simp)
    have hadd : (⟨g, 0, none⟩ : Addr).add os.length = ⟨g, os.length, none⟩ := by unfold Addr.add; split <;> simp_all
    rwa [hadd] at this
def ClPost (base ob vb wb mb : Nat) (ov sv tv : Value) (opn : List Nat) (st : List UInt8) (N : List ByteArray) (p : Int) (w : World) (e : Ending) (w' : World) : Prop :=
  ∃ ov' sv', e = .returned (.tuple #[]) ∧ EncAt w' base ob vb wb mb ov' sv' tv (closeR opn p) (st ++ closeB opn p) N ∧ Keeps (fun g => g = ob ∨ g = wb ∨ sv.ownBlock = some g) w w' ∧ (∀ g, sv'.ownBlock = some g → sv.ownBlock = some g ∨ w.heap.size ≤ g)
set_option maxRecDepth 100000 in
set_option maxHeartbeats 4000000 in
theorem blob_close (base ob vb wb mb : Nat) (ov sv tv : Value) (opn : List Nat) (st : List UInt8) (N : List ByteArray) (p : Int) (w : World) (h : EncAt w base ob vb wb mb ov sv tv opn st N) (hst : st.length + 4 * opn.length ≤ 900000000) (hol : opn.length ≤ 1000) (hbase : base ≤ w.heap.size) (hp : -1 ≤ p ∧ p ≤ 1000) (hopn : ∀ o ∈ opn, o ≤ 1000) :
    Calls Tryz.prog 62 #[.int .i64 p, .pointer (some ⟨ob, 0, none⟩), .pointer (some ⟨vb, 0, none⟩)] w (ClPost base ob vb wb mb ov sv tv opn st N p w) := by
  have HOP := Lib.hid hopn; clear hopn
  go_enter Tryz.func62, Tryz.ntmps62
  go_wp2_with fail
  go_loopg [] opn.length (fun f wr => ∃ (o2 : List Nat) (s2 : List UInt8) (ov2 sv2 : Value), o2.length ≤ f ∧ o2.length ≤ 1000 ∧ s2.length + 4 * o2.length ≤ 900000000 ∧ Hid (∀ o ∈ o2, o ≤ 1000) ∧ Hid (closeR o2 p = closeR opn p) ∧ Hid (s2 ++ closeB o2 p = st ++ closeB opn p) ∧
    EncAt wr base ob vb wb mb ov2 sv2 tv o2 s2 N ∧ Keeps (fun g => g = ob ∨ g = wb ∨ sv.ownBlock = some g) w wr ∧ (∀ g, sv2.ownBlock = some g → sv.ownBlock = some g ∨ w.heap.size ≤ g))
  case atStart => exact ⟨opn, st, ov, sv, by omega, hol, hst, HOP, rfl, rfl, h, Keeps.refl _ _, fun g e => .inl e⟩
  case round =>
    obtain ⟨o2, s2, ov2, sv2, hf, ho2, hs2, hop, hC, hB, hE, hK, hO⟩ := hrel
    have hws := hK.size
    have x0 : wr.cell? ⟨ob, 0, none⟩ = some ov2 := hE.o.cell 0
    have x0f := hE.o.free 0
    have obl := hE.o.lt
    cases o2 with
    | nil =>
      obtain ⟨a, c, rfl⟩ : ∃ a c, ov2 = .slice a 0 c := by
        obtain ⟨a, c, e⟩ := bytes_shape hE.r
        exact ⟨a, c, e⟩
      have HE := Lib.hid hE
      have HK := Lib.hid hK
      have HO := Lib.hid hO
      clear hE hK hO
      go_wp2_with fail
      go_end0
      refine ⟨.slice a 0 c, sv2, rfl, ?_, HK.out, HO.out⟩
      rw [← hC.out, ← hB.out]
      exact (by simpa [closeR, closeB, leaves] using HE.out)
    | cons o os =>
      obtain ⟨g, cap, rfl, hcap, hcm, hgb, hgl, hlast, hpop⟩ := open_last hE.r
      simp only [List.length_cons] at hf ho2 hs2
      have ho := hop.out o (by simp)
      have hw1 : IntKind.i64.wrap ((os.length : Int) + 1 - 1) = (os.length : Int) := by rw [show (os.length : Int) + 1 - 1 = (os.length : Int) from by omega]; exact IntWalk.i64_in _ (by omega)
      by_cases heq : (o : Int) = p
      · have hne : ((o : Int) != p) = false := by simpa using heq
        have HE := Lib.hid hE
        have HK := Lib.hid hK
        have HO := Lib.hid hO
        clear hE hK hO heq
        go_wp2_with fail
        go_end0
        refine ⟨.slice (some ⟨g, 0, none⟩) (os.length + 1) cap, sv2, rfl, ?_, HK.out, HO.out⟩
        rw [← hC.out, ← hB.out]
        have e1 : closeR (o :: os) p = o :: os := by rw [closeR, if_pos (by simpa using hne)]
        unfold closeB
        rw [e1]
        simpa [leaves] using HE.out
      · have hne : ((o : Int) != p) = true := by simpa using heq
        have y0 := hE.v.cell 0
        have vbl := hE.v.lt
        have z0 : wr.cell? ⟨wb, 0, none⟩ = some sv2 := hE.wr.holds.cell 0
        have z0f := hE.wr.holds.free 0
        have wbl := hE.wr.holds.lt
        have hov := holds_apart hE.o hE.v (by decide)
        have how := holds_apart hE.o hE.wr.holds (by decide)
        have hvw := holds_apart hE.v hE.wr.holds (by decide)
        have e1 : closeR (o :: os) p = closeR os p := by rw [closeR, if_neg heq]
        have hC2 := Lib.hid (show closeR os p = closeR opn p from by rw [← e1]; exact hC.out)
        have hB2 := Lib.hid (show s2 ++ b4 2 ++ closeB os p = st ++ closeB opn p from by
          rw [← hB.out, List.append_assoc]
          unfold closeB
          rw [e1, show (o :: os).length - (closeR os p).length = (os.length - (closeR os p).length) + 1 from by have := (closeR_drop os p).2; simp; omega, leaves_succ])
        obtain ⟨sa, sc, rfl⟩ := hE.wr.s.shape
        have HE := Lib.hid hE
        have HK := Lib.hid hK
        have HO := Lib.hid hO
        have HPOP := Lib.hid hpop
        have HOPS := Lib.hid (fun x hx => hop.out x (List.mem_cons_of_mem o hx))
        clear hE hK hO hpop heq e1 hop hC hB
        go_wp2_with fail
        have k1 : Keeps (· = ob) wr (wr.setCell ⟨ob, 0, none⟩ (.slice (some ⟨g, 0, none⟩) os.length cap)) := (Keeps.refl (· = ob) wr).setCell (p := ⟨ob, 0, none⟩) (.inr rfl) _
        have hO1 := HE.out.o.set 0 (.slice (some ⟨g, 0, none⟩) os.length cap)
        have hR1 := ownsRow_keeps HPOP.out k1 (fun b hb e => row_not HPOP.out HE.out.o (by decide) (by rw [hb, e]))
        have hV1 := HE.out.v.keeps k1 (fun e => hov e.symm)
        have hW1 := HE.out.wr.other HE.out.o (by decide) (by decide) k1
        have hs1 := k1.size
        generalize wr.setCell ⟨ob, 0, none⟩ (.slice (some ⟨g, 0, none⟩) os.length cap) = w1 at *
        have HO1 := Lib.hid hO1
        have HR1 := Lib.hid hR1
        have HV1 := Lib.hid hV1
        have HW1 := Lib.hid hW1
        have HS1 := Lib.hid k1
        clear hO1 hR1 hV1 hW1 k1
        refine wp_region_any (by kernel_rfl) ?_
        refine wpAny_ops (ops' := bcOps) (by kernel_rfl) ?_
        refine bc_region2 base vb wb mb (.slice sa s2.length sc) tv s2 (s2 ++ b4 2) N w1 _ _ rfl HW1.out (by omega) rfl (by omega) rfl ⟨HV1.out.drew, HW1.out.holds.drew⟩ ((Keeps.refl _ w1).drew) ?_
        rintro c w2 nB sv2 hsb ⟨w3, rfl, hb3, hG3⟩
        have hcx := hsb.ex [22, 23, 24, 25, 26, 27, 28, 29, 30] (by kernel_rfl)
        obtain ⟨y22, y23, y24, y25, y26, y27, y28, y29, y30, rfl⟩ := hcx
        simp only [List.setIfInBounds_toArray, List.set_cons_zero, List.set_cons_succ]
        have hW4 := HW1.out.grew hG3 hb3
        have hnv := bts_not HW1.out.s HV1.out (by decide)
        have hno := bts_not HW1.out.s HO1.out (by decide)
        have kst : Keeps (· = wb) w3 (w3.setCell ⟨wb, 0, none⟩ sv2) := (Keeps.refl (· = wb) w3).setCell (p := ⟨wb, 0, none⟩) (.inr rfl) _
        have hV4 := (HV1.out.keeps hG3.1 hnv).keeps kst hvw
        have hO4 := (HO1.out.keeps hG3.1 hno).keeps kst how
        have hR3 := ownsRow_keeps HR1.out hG3.1 (fun q hq e => by
          obtain ⟨xs, hx⟩ := (bts_holds HW1.out.s e).2
          exact row_not HR1.out hx (by decide) hq)
        have hRw := row_not hR3 (HW1.out.holds.keeps hG3.1 (bts_not HW1.out.s HW1.out.holds (by decide))) (by decide)
        have hR4 := ownsRow_keeps hR3 kst (fun q hq e => hRw (by rw [hq, e]))
        have hK4 := ((HK.out.trans (HS1.out.mono (S := fun q => q = ob ∨ q = wb ∨ Value.ownBlock (.slice sa s2.length sc) = some q) (fun i _ e => .inl e)) (fun i hi e => by
          rcases e with e | e | e
          · exact .inl e
          · exact .inr (.inl e)
          · rcases HO.out i e with e | e
            · exact .inr (.inr e)
            · omega)).trans hG3.1 (fun i hi e => by
          rcases HO.out i e with e | e
          · exact .inr (.inr e)
          · omega)).trans kst (fun i _ e => .inr (.inl e))
        have HF := Lib.hid (show EncAt (w3.setCell ⟨wb, 0, none⟩ sv2) base ob vb wb mb (.slice (some ⟨g, 0, none⟩) os.length cap) sv2 tv os (s2 ++ b4 2) N from ⟨hO4, hR4, hV4, hW4, HE.out.lb⟩)
        have HK4 := Lib.hid hK4
        have HG3 := Lib.hid hG3
        clear hO4 hR4 hV4 hW4 hK4 hG3 hR3 hRw kst hb3 hsb hnv hno
        go_wp2_with fail
        go_roundg (gk - 1)
        case measure => omega
        case rel =>
          refine ⟨os, s2 ++ b4 2, _, sv2, by omega, by omega, by rw [List.length_append, b4_len]; omega, HOPS, hC2, hB2, HF.out, HK4.out, fun q hq => ?_⟩
          rcases HG3.out.2 q hq with e | e
          · exact HO.out q e
          · exact .inr (by have := HS1.out.size; omega)
end Go.Proofs.YtofhcgbihonckaaGreatDoor

namespace Go.Proofs.YtofhcgbihonckaaGreatDoor
open Go.RowKit
open Go.ChangeMaps
noncomputable def bfOps : Array Oper := (regOps (Tryz.f33.body.getD .skip) 17).getD #[]
theorem bfR : inRow2 .any bfOps = true := by kernel_rfl
theorem bfRa : apartB bfOps = true := by kernel_rfl
theorem bfRn : bfOps.size = 10 := by kernel_rfl
def BfF (_ _ wb _ : Nat) (sv _ : Value) (_ _ : List UInt8) (_ : List ByteArray) (nB : Nat) (sv2 : Value) (j : Nat) : Value → World → Prop := match j with
  | 0 => fun u _ => u = .pointer (some ⟨wb, 0, none⟩)
  | 1 => fun u _ => u = .pointer (some ⟨wb, 0, none⟩)
  | 2 => fun u _ => u = .pointer (some ⟨wb, 0, none⟩)
  | 3 => fun u _ => u = .pointer (some ⟨wb, 0, none⟩)
  | 4 => fun u _ => u = sv
  | 5 => fun u _ => u = .slice (some ⟨nB, 0, none⟩) 1 1
  | 6 => fun u _ => u = sv2
  | 7 => fun u _ => u = .pointer (some ⟨wb, 0, none⟩)
  | 8 => fun u _ => u = .pointer (some ⟨wb, 0, none⟩)
  | _ => fun _ _ => True
/-- What holds until the chain's end. -/
def BfC (_ vb wb mb : Nat) (sv tv : Value) (_ _ : List UInt8) (_ : List ByteArray) (_ w : World) : Prop := (Holds w vb #[.pointer (some ⟨wb, 0, none⟩)] 99) ∧ Holds w wb #[sv, tv, .map (some mb)] 102
/-- Where the chain stands. -/
def BfE (base _ wb _ : Nat) (sv _ : Value) (_ st2 : List UInt8) (_ : List ByteArray) (nB : Nat) (sv2 : Value) (W w : World) (l : Array Bool) : Prop :=
  if l.getD 5 false = false then (Keeps (fun _ => False) W w) else
  if l.getD 6 false = false then (Keeps (fun _ => False) W w ∧ Holds w nB #[.int .i64 9] 3 ∧ W.heap.size ≤ nB) else
  if l.getD 9 false = false then (Bts w base sv2 st2 ∧ Grew W w sv sv2) else
  ∃ w3, w = w3.setCell ⟨wb, 0, none⟩ sv2 ∧ Bts w3 base sv2 st2 ∧ Grew W w3 sv sv2
section
variable {base vb wb mb : Nat} {sv tv : Value} {st st2 : List UInt8} {N : List ByteArray} {nB : Nat} {sv2 : Value} {W w : World} {l : Array Bool}
theorem BfE.other {j : Nat} (h : BfE base vb wb mb sv tv st st2 N nB sv2 W w l) (n0 : j ≠ 5) (n1 : j ≠ 6) (n2 : j ≠ 9) : BfE base vb wb mb sv tv st st2 N nB sv2 W w (l.setIfInBounds j true) := by
  unfold BfE at h ⊢
  rw [set_other n0, set_other n1, set_other n2]
  exact h
theorem BfE.at0 (h : BfE base vb wb mb sv tv st st2 N nB sv2 W w l)  (no : l.getD 5 false = false) : Keeps (fun _ => False) W w := by
  unfold BfE at h
  rw [no, if_pos rfl] at h
  exact h
theorem BfE.to0  (hs : 5 < l.size) (no : l.getD 6 false = false) (h : Keeps (fun _ => False) W w ∧ Holds w nB #[.int .i64 9] 3 ∧ W.heap.size ≤ nB) : BfE base vb wb mb sv tv st st2 N nB sv2 W w (l.setIfInBounds 5 true) := by
  unfold BfE
  rw [set_here hs, if_neg (by simp)]
  rw [set_other (show 5 ≠ 6 by decide), no, if_pos rfl]
  exact h
theorem BfE.at1 (h : BfE base vb wb mb sv tv st st2 N nB sv2 W w l) (y0 : l.getD 5 false = true) (no : l.getD 6 false = false) : Keeps (fun _ => False) W w ∧ Holds w nB #[.int .i64 9] 3 ∧ W.heap.size ≤ nB := by
  unfold BfE at h
  rw [y0, if_neg (by simp)] at h
  rw [no, if_pos rfl] at h
  exact h
theorem BfE.to1 (y0 : l.getD 5 false = true) (hs : 6 < l.size) (no : l.getD 9 false = false) (h : Bts w base sv2 st2 ∧ Grew W w sv sv2) : BfE base vb wb mb sv tv st st2 N nB sv2 W w (l.setIfInBounds 6 true) := by
  unfold BfE
  rw [set_other (show 6 ≠ 5 by decide), y0, if_neg (by simp)]
  rw [set_here hs, if_neg (by simp)]
  rw [set_other (show 6 ≠ 9 by decide), no, if_pos rfl]
  exact h
theorem BfE.at2 (h : BfE base vb wb mb sv tv st st2 N nB sv2 W w l) (y0 : l.getD 5 false = true) (y1 : l.getD 6 false = true) (no : l.getD 9 false = false) : Bts w base sv2 st2 ∧ Grew W w sv sv2 := by
  unfold BfE at h
  rw [y0, if_neg (by simp)] at h
  rw [y1, if_neg (by simp)] at h
  rw [no, if_pos rfl] at h
  exact h
theorem BfE.to2 (y0 : l.getD 5 false = true) (y1 : l.getD 6 false = true) (hs : 9 < l.size) (h : ∃ w3, w = w3.setCell ⟨wb, 0, none⟩ sv2 ∧ Bts w3 base sv2 st2 ∧ Grew W w3 sv sv2) : BfE base vb wb mb sv tv st st2 N nB sv2 W w (l.setIfInBounds 9 true) := by
  unfold BfE
  rw [set_other (show 9 ≠ 5 by decide), y0, if_neg (by simp)]
  rw [set_other (show 9 ≠ 6 by decide), y1, if_neg (by simp)]
  rw [set_here hs, if_neg (by simp)]
  exact h
theorem BfF.ghost0 {nB' : Nat} {j : Nat} {u : Value} (h : BfF base vb wb mb sv tv st st2 N nB sv2 j u w) (n0 : j ≠ 5) : BfF base vb wb mb sv tv st st2 N nB' sv2 j u w := by
  unfold BfF at *
  split at h
  all_goals first
    | exact h
    | exact absurd rfl n0
theorem BfF.ghost1 {sv2' : Value} {j : Nat} {u : Value} (h : BfF base vb wb mb sv tv st st2 N nB sv2 j u w) (n0 : j ≠ 6) : BfF base vb wb mb sv tv st st2 N nB sv2' j u w := by
  unfold BfF at *
  split at h
  all_goals first
    | exact h
    | exact absurd rfl n0
theorem BfF.world {j : Nat} {u : Value} {w' : World} (h : BfF base vb wb mb sv tv st st2 N nB sv2 j u w) : BfF base vb wb mb sv tv st st2 N nB sv2 j u w' := by
  unfold BfF at *
  split at h
  all_goals exact h
end

set_option maxHeartbeats 8000000 in
set_option maxRecDepth 100000 in
theorem bf_region17 {Q : Exit → Act → World → Prop} (base vb wb mb : Nat) (sv tv : Value) (st st2 : List UInt8) (N : List ByteArray) (W w : World) (A : Act) (hsz : A.tmps.size = 132) (hW : WrAt W base wb mb sv tv st N) (hst : st.length ≤ 900000000) (hst2 : Hid (st2 = st ++ b4 9)) (hbase : base ≤ W.heap.size)
    (a3 : A.tmps.getD 3 undef = .pointer (some ⟨vb, 0, none⟩)) (hC0 : BfC base vb wb mb sv tv st st2 N W w) (hE0 : Keeps (fun _ => False) W w)
    (hQ : ∀ c w' (nB : Nat) (sv2 : Value), SameBut bfOps A c → (∃ w3, w' = w3.setCell ⟨wb, 0, none⟩ sv2 ∧ Bts w3 base sv2 st2 ∧ Grew W w3 sv sv2) → Q .normal c w') :
    wpAny Tryz.prog .any bfOps Q bfOps.size (Array.replicate bfOps.size false) A w := by
  refine wpAny_inv2 (fun l c wx => ∃ nB sv2, RInvF bfOps A (BfF base vb wb mb sv tv st st2 N nB sv2) (fun _ => True) l c wx ∧ (l.getD 9 false = false → BfC base vb wb mb sv tv st st2 N W wx) ∧ BfE base vb wb mb sv tv st st2 N nB sv2 W wx l) bfR ?hend ?hstep _ _ _ _ (by simp) (by simp) ⟨0, .slice none 0 0, RInvF.start trivial, fun _ => hC0, by unfold BfE; rw [if_pos (rep_no _ _)]; exact hE0⟩
  case hend =>
    rintro l c wx ⟨nB, sv2, hI, hC, hE⟩ hl
    have hh : ∀ k, k < 10 → l.getD k false = true := fun k hk => hl k (by rw [bfRn]; exact hk)
    have hEm : ∃ w3, wx = w3.setCell ⟨wb, 0, none⟩ sv2 ∧ Bts w3 base sv2 st2 ∧ Grew W w3 sv sv2 := by
      unfold BfE at hE
      rw [hh 5 (by decide), if_neg (by simp)] at hE
      rw [hh 6 (by decide), if_neg (by simp)] at hE
      rw [hh 9 (by decide), if_neg (by simp)] at hE
      exact hE
    exact hQ c wx nB sv2 hI.1.1  hEm
  intro l c wx hIx i' op ho hl hall K' hK'
  obtain ⟨nB, sv2, hI, hC, hE⟩ := hIx
  have hls : l.size = 10 := by rw [hI.1.2.2.1.1, bfRn]
  have hi' : i' < 10 := by rw [← bfRn]; exact (Array.getElem?_eq_some_iff.1 ho).1
  have ho2 := ho
  simp only [bfOps, regOps, Tryz.f33, Option.getD_some, reduceIte, Nat.reduceEqDiff] at ho
  have s3 := (hI.slot 3 (by kernel_rfl)).trans a3
  have fs := And.intro True.intro True.intro
  simp only [Array.getD_eq_getD_getElem?] at s3
  have hic : i' = 0 ∨ i' = 1 ∨ i' = 2 ∨ i' = 3 ∨ i' = 4 ∨ i' = 5 ∨ i' = 6 ∨ i' = 7 ∨ i' = 8 ∨ i' = 9 := by omega
  clear hi'
  rcases hic with rfl | rfl | rfl | rfl | rfl | rfl | rfl | rfl | rfl | rfl
  all_goals cases ho
  · have hc := hC (hI.1.2.2.1.2.no_far 10 hl (by kernel_rfl : farB bfOps 10 9 0 = true))
    have x0 := hc.1.cell 0
    go_simp
    exact hK' _ _ ⟨nB, sv2, hI.step bfRa 0 73 rfl (by rw [hsz]; decide) _ _ ho2 hall trivial (fun _ _ h => h) rfl, (fun h => hC (listed_set h)), hE.other (by decide) (by decide) (by decide)⟩
  · have hc := hC (hI.1.2.2.1.2.no_far 10 hl (by kernel_rfl : farB bfOps 10 9 1 = true))
    have x0 := hc.1.cell 0
    go_simp
    exact hK' _ _ ⟨nB, sv2, hI.step bfRa 1 74 rfl (by rw [hsz]; decide) _ _ ho2 hall trivial (fun _ _ h => h) rfl, (fun h => hC (listed_set h)), hE.other (by decide) (by decide) (by decide)⟩
  · have e1 : c.tmps.getD 74 undef = .pointer (some ⟨wb, 0, none⟩) := hI.fact 1 74 rfl (hI.1.2.2.1.2.yes_far 10 ho2 hall (by decide) (by kernel_rfl))
    have f1 := e1
    simp only [Array.getD_eq_getD_getElem?] at e1
    go_simp
    exact hK' _ _ ⟨nB, sv2, hI.step bfRa 2 75 rfl (by rw [hsz]; decide) _ _ ho2 hall trivial (fun _ _ h => h) rfl, (fun h => hC (listed_set h)), hE.other (by decide) (by decide) (by decide)⟩
  · have e2 : c.tmps.getD 75 undef = .pointer (some ⟨wb, 0, none⟩) := hI.fact 2 75 rfl (hI.1.2.2.1.2.yes_far 10 ho2 hall (by decide) (by kernel_rfl))
    have f2 := e2
    simp only [Array.getD_eq_getD_getElem?] at e2
    go_simp
    exact hK' _ _ ⟨nB, sv2, hI.step bfRa 3 76 rfl (by rw [hsz]; decide) _ _ ho2 hall trivial (fun _ _ h => h) rfl, (fun h => hC (listed_set h)), hE.other (by decide) (by decide) (by decide)⟩
  · have e3 : c.tmps.getD 76 undef = .pointer (some ⟨wb, 0, none⟩) := hI.fact 3 76 rfl (hI.1.2.2.1.2.yes_far 10 ho2 hall (by decide) (by kernel_rfl))
    have f3 := e3
    simp only [Array.getD_eq_getD_getElem?] at e3
    have hc := hC (hI.1.2.2.1.2.no_far 10 hl (by kernel_rfl : farB bfOps 10 9 4 = true))
    have x0 := hc.2.cell 0
    go_simp
    exact hK' _ _ ⟨nB, sv2, hI.step bfRa 4 77 rfl (by rw [hsz]; decide) _ _ ho2 hall trivial (fun _ _ h => h) rfl, (fun h => hC (listed_set h)), hE.other (by decide) (by decide) (by decide)⟩
  · have hc := hC (hI.1.2.2.1.2.no_far 10 hl (by kernel_rfl : farB bfOps 10 9 5 = true))
    have hp := hE.at0  hl
    have un := hI.1.2.2.1.2.no_far 10 hl (by kernel_rfl : farB bfOps 10 6 5 = true)
    have hp2 : Keeps (fun _ => False) W (wx.alloc (.cells #[.int .i64 9] 3)) ∧ Holds (wx.alloc (.cells #[.int .i64 9] 3)) wx.heap.size #[.int .i64 9] 3 ∧ W.heap.size ≤ wx.heap.size := ⟨hp.alloc _, Holds.new _ _ _, hp.size⟩
    have hc2 : BfC base vb wb mb sv tv st st2 N W (wx.alloc (.cells #[.int .i64 9] 3)) := ⟨hc.1.alloc _, hc.2.alloc _⟩
    go_simp
    have hJ : RInvF bfOps A (BfF base vb wb mb sv tv st st2 N (wx.heap.size) sv2) (fun _ => True) l c wx := ⟨hI.1.other (fun j hj u hF => BfF.ghost0 hF (yes_no hj hl)), hI.2⟩
    exact hK' _ _ ⟨wx.heap.size, _, hJ.step bfRa 5 78 rfl (by rw [hsz]; decide) _ _ ho2 hall trivial (fun _ _ h => BfF.world h) rfl, fun _ => hc2, BfE.to0  (by rw [hls]; decide) un hp2⟩
  · have e4 : c.tmps.getD 77 undef = sv := hI.fact 4 77 rfl (hI.1.2.2.1.2.yes_far 10 ho2 hall (by decide) (by kernel_rfl))
    have f4 := e4
    simp only [Array.getD_eq_getD_getElem?] at e4
    have e5 : c.tmps.getD 78 undef = .slice (some ⟨nB, 0, none⟩) 1 1 := hI.fact 5 78 rfl (hI.1.2.2.1.2.yes_far 10 ho2 hall (by decide) (by kernel_rfl))
    have f5 := e5
    simp only [Array.getD_eq_getD_getElem?] at e5
    have hc := hC (hI.1.2.2.1.2.no_far 10 hl (by kernel_rfl : farB bfOps 10 9 6 = true))
    have y0 : l.getD 5 false = true := hI.1.2.2.1.2.yes_far 10 ho2 hall (by decide) (by kernel_rfl)
    have hp := hE.at1 y0 hl
    have un := hI.1.2.2.1.2.no_far 10 hl (by kernel_rfl : farB bfOps 10 9 6 = true)
    obtain ⟨hp0, hpB, hpN⟩ := hp
    have hsn : ∀ b, sv.ownBlock = some b → Value.ownBlock (.slice (some ⟨nB, 0, none⟩) 1 1) ≠ some b := fun b hb e => by
      have e2 : nB = b := Option.some.inj e
      obtain ⟨xs, hx⟩ := (bts_holds hW.s hb).2
      have := hx.lt
      omega
    go_simp
    refine (blob_put base _ (.slice (some ⟨nB, 0, none⟩) 1 1) st [9] _ (hW.s.keeps hp0 (fun _ _ e => e)) (list_held (l := [9]) hpB) hsn (by simp) (by simp) (by omega) (Nat.le_trans hbase hp0.size)).mono ?_
    rintro e w2 ⟨sv3, rfl, hb3, hG3⟩
    go_simp
    have hp2 : Bts w2 base sv3 st2 ∧ Grew W w2 sv sv3 := ⟨by rw [hst2.out, ← bytes4_b4 9 (by omega)]; simpa [b4s] using hb3, hG3.after hp0⟩
    have hn1 := bts_not (hW.s.keeps hp0 (fun _ _ e => e)) hc.1 (by decide)
    have hn2 := bts_not (hW.s.keeps hp0 (fun _ _ e => e)) hc.2 (by decide)
    have hc2 : BfC base vb wb mb sv tv st st2 N W w2 := ⟨hc.1.keeps hG3.1 hn1, hc.2.keeps hG3.1 hn2⟩
    have hJ : RInvF bfOps A (BfF base vb wb mb sv tv st st2 N nB (sv3)) (fun _ => True) l c wx := ⟨hI.1.other (fun j hj u hF => BfF.ghost1 hF (yes_no hj hl)), hI.2⟩
    exact hK' _ _ ⟨_, sv3, hJ.step bfRa 6 79 rfl (by rw [hsz]; decide) _ _ ho2 hall trivial (fun _ _ h => BfF.world h) rfl, fun _ => hc2, BfE.to1 y0 (by rw [hls]; decide) un hp2⟩
  · have e0 : c.tmps.getD 73 undef = .pointer (some ⟨wb, 0, none⟩) := hI.fact 0 73 rfl (hI.1.2.2.1.2.yes_far 10 ho2 hall (by decide) (by kernel_rfl))
    have f0 := e0
    simp only [Array.getD_eq_getD_getElem?] at e0
    go_simp
    exact hK' _ _ ⟨nB, sv2, hI.step bfRa 7 80 rfl (by rw [hsz]; decide) _ _ ho2 hall trivial (fun _ _ h => h) rfl, (fun h => hC (listed_set h)), hE.other (by decide) (by decide) (by decide)⟩
  · have e7 : c.tmps.getD 80 undef = .pointer (some ⟨wb, 0, none⟩) := hI.fact 7 80 rfl (hI.1.2.2.1.2.yes_far 10 ho2 hall (by decide) (by kernel_rfl))
    have f7 := e7
    simp only [Array.getD_eq_getD_getElem?] at e7
    go_simp
    exact hK' _ _ ⟨nB, sv2, hI.step bfRa 8 81 rfl (by rw [hsz]; decide) _ _ ho2 hall trivial (fun _ _ h => h) rfl, (fun h => hC (listed_set h)), hE.other (by decide) (by decide) (by decide)⟩
  · have e6 : c.tmps.getD 79 undef = sv2 := hI.fact 6 79 rfl (hI.1.2.2.1.2.yes_far 10 ho2 hall (by decide) (by kernel_rfl))
    have f6 := e6
    simp only [Array.getD_eq_getD_getElem?] at e6
    have e8 : c.tmps.getD 81 undef = .pointer (some ⟨wb, 0, none⟩) := hI.fact 8 81 rfl (hI.1.2.2.1.2.yes_far 10 ho2 hall (by decide) (by kernel_rfl))
    have f8 := e8
    simp only [Array.getD_eq_getD_getElem?] at e8
    have hc := hC (hI.1.2.2.1.2.no_far 10 hl (by kernel_rfl : farB bfOps 10 9 9 = true))
    have y0 : l.getD 5 false = true := hI.1.2.2.1.2.yes_far 10 ho2 hall (by decide) (by kernel_rfl)
    have y1 : l.getD 6 false = true := hI.1.2.2.1.2.yes_far 10 ho2 hall (by decide) (by kernel_rfl)
    have hp := hE.at2 y0 y1 hl
    obtain ⟨a2, c2, rfl⟩ := hp.1.shape
    have x0 := hc.2.cell 0
    have x1 := hc.2.free 0
    have x2 := hc.2.lt
    go_simp
    have hp2 := (⟨_, rfl, hp.1, hp.2⟩ : ∃ w3, wx.setCell ⟨wb, 0, none⟩ (.slice a2 st2.length c2) = w3.setCell ⟨wb, 0, none⟩ (.slice a2 st2.length c2) ∧ Bts w3 base (.slice a2 st2.length c2) st2 ∧ Grew W w3 sv (.slice a2 st2.length c2))
    exact hK' _ _ ⟨_, _, hI.stepN 9 rfl _ ho2 hall trivial (fun _ _ h => BfF.world h) trivial, fun h => absurd h (by rw [set_here (by rw [hls]; decide)]; simp), BfE.to2 y0 y1 (by rw [hls]; decide) hp2⟩
end Go.Proofs.YtofhcgbihonckaaGreatDoor

namespace Go.Proofs.YtofhcgbihonckaaGreatDoor
open Go.RowKit
open Go.ChangeMaps
noncomputable def bgOps : Array Oper := (regOps (Tryz.f33.body.getD .skip) 9).getD #[]
theorem bgR : inRow2 .any bgOps = true := by kernel_rfl
theorem bgRa : apartB bgOps = true := by kernel_rfl
theorem bgRn : bgOps.size = 13 := by kernel_rfl
def BgF (_ _ wb _ nb : Nat) (sv _ _ : Value) (_ : Int) (nm : ByteArray) (_ _ _ : List UInt8) (_ : List ByteArray) (nB : Nat) (sv2 : Value) (sv3 : Value) (j : Nat) : Value → World → Prop := match j with
  | 0 => fun u _ => u = .pointer (some ⟨wb, 0, none⟩)
  | 1 => fun u _ => u = .pointer (some ⟨wb, 0, none⟩)
  | 2 => fun u _ => u = .pointer (some ⟨wb, 0, none⟩)
  | 3 => fun u _ => u = .pointer (some ⟨wb, 0, none⟩)
  | 4 => fun u _ => u = sv
  | 5 => fun u _ => u = .slice (some ⟨nB, 0, none⟩) 1 1
  | 6 => fun u _ => u = sv2
  | 7 => fun u _ => u = .pointer (some ⟨nb, 1, none⟩)
  | 8 => fun u _ => u = .string nm
  | 9 => fun u _ => u = sv3
  | 10 => fun u _ => u = .pointer (some ⟨wb, 0, none⟩)
  | 11 => fun u _ => u = .pointer (some ⟨wb, 0, none⟩)
  | _ => fun _ _ => True
/-- What holds until the chain's end. -/
def BgC (_ vb wb mb nb : Nat) (sv tv pv : Value) (par : Int) (nm : ByteArray) (_ _ _ : List UInt8) (_ : List ByteArray) (_ w : World) : Prop := (Holds w vb #[.pointer (some ⟨wb, 0, none⟩)] 99) ∧ Holds w wb #[sv, tv, .map (some mb)] 102 ∧ Holds w nb #[.int .i64 par, .string nm, pv] 52
/-- Where the chain stands. -/
def BgE (base _ wb _ _ : Nat) (sv _ _ : Value) (_ : Int) (_ : ByteArray) (_ stA st2 : List UInt8) (_ : List ByteArray) (nB : Nat) (sv2 : Value) (sv3 : Value) (W w : World) (l : Array Bool) : Prop :=
  if l.getD 5 false = false then (Keeps (fun _ => False) W w) else
  if l.getD 6 false = false then (Keeps (fun _ => False) W w ∧ Holds w nB #[.int .i64 1] 3 ∧ W.heap.size ≤ nB) else
  if l.getD 9 false = false then (Bts w base sv2 stA ∧ Grew W w sv sv2) else
  if l.getD 12 false = false then (Bts w base sv3 st2 ∧ Grew W w sv sv3) else
  ∃ w3, w = w3.setCell ⟨wb, 0, none⟩ sv3 ∧ Bts w3 base sv3 st2 ∧ Grew W w3 sv sv3
section
variable {base vb wb mb nb : Nat} {sv tv pv : Value} {par : Int} {nm : ByteArray} {st stA st2 : List UInt8} {N : List ByteArray} {nB : Nat} {sv2 : Value} {sv3 : Value} {W w : World} {l : Array Bool}
theorem BgE.other {j : Nat} (h : BgE base vb wb mb nb sv tv pv par nm st stA st2 N nB sv2 sv3 W w l) (n0 : j ≠ 5) (n1 : j ≠ 6) (n2 : j ≠ 9) (n3 : j ≠ 12) : BgE base vb wb mb nb sv tv pv par nm st stA st2 N nB sv2 sv3 W w (l.setIfInBounds j true) := by
  unfold BgE at h ⊢
  rw [set_other n0, set_other n1, set_other n2, set_other n3]
  exact h
theorem BgE.at0 (h : BgE base vb wb mb nb sv tv pv par nm st stA st2 N nB sv2 sv3 W w l)  (no : l.getD 5 false = false) : Keeps (fun _ => False) W w := by
  unfold BgE at h
  rw [no, if_pos rfl] at h
  exact h
theorem BgE.to0  (hs : 5 < l.size) (no : l.getD 6 false = false) (h : Keeps (fun _ => False) W w ∧ Holds w nB #[.int .i64 1] 3 ∧ W.heap.size ≤ nB) : BgE base vb wb mb nb sv tv pv par nm st stA st2 N nB sv2 sv3 W w (l.setIfInBounds 5 true) := by
  unfold BgE
  rw [set_here hs, if_neg (by simp)]
  rw [set_other (show 5 ≠ 6 by decide), no, if_pos rfl]
  exact h
theorem BgE.at1 (h : BgE base vb wb mb nb sv tv pv par nm st stA st2 N nB sv2 sv3 W w l) (y0 : l.getD 5 false = true) (no : l.getD 6 false = false) : Keeps (fun _ => False) W w ∧ Holds w nB #[.int .i64 1] 3 ∧ W.heap.size ≤ nB := by
  unfold BgE at h
  rw [y0, if_neg (by simp)] at h
  rw [no, if_pos rfl] at h
  exact h
theorem BgE.to1 (y0 : l.getD 5 false = true) (hs : 6 < l.size) (no : l.getD 9 false = false) (h : Bts w base sv2 stA ∧ Grew W w sv sv2) : BgE base vb wb mb nb sv tv pv par nm st stA st2 N nB sv2 sv3 W w (l.setIfInBounds 6 true) := by
  unfold BgE
  rw [set_other (show 6 ≠ 5 by decide), y0, if_neg (by simp)]
  rw [set_here hs, if_neg (by simp)]
  rw [set_other (show 6 ≠ 9 by decide), no, if_pos rfl]
  exact h
theorem BgE.at2 (h : BgE base vb wb mb nb sv tv pv par nm st stA st2 N nB sv2 sv3 W w l) (y0 : l.getD 5 false = true) (y1 : l.getD 6 false = true) (no : l.getD 9 false = false) : Bts w base sv2 stA ∧ Grew W w sv sv2 := by
  unfold BgE at h
  rw [y0, if_neg (by simp)] at h
  rw [y1, if_neg (by simp)] at h
  rw [no, if_pos rfl] at h
  exact h
theorem BgE.to2 (y0 : l.getD 5 false = true) (y1 : l.getD 6 false = true) (hs : 9 < l.size) (no : l.getD 12 false = false) (h : Bts w base sv3 st2 ∧ Grew W w sv sv3) : BgE base vb wb mb nb sv tv pv par nm st stA st2 N nB sv2 sv3 W w (l.setIfInBounds 9 true) := by
  unfold BgE
  rw [set_other (show 9 ≠ 5 by decide), y0, if_neg (by simp)]
  rw [set_other (show 9 ≠ 6 by decide), y1, if_neg (by simp)]
  rw [set_here hs, if_neg (by simp)]
  rw [set_other (show 9 ≠ 12 by decide), no, if_pos rfl]
  exact h
theorem BgE.at3 (h : BgE base vb wb mb nb sv tv pv par nm st stA st2 N nB sv2 sv3 W w l) (y0 : l.getD 5 false = true) (y1 : l.getD 6 false = true) (y2 : l.getD 9 false = true) (no : l.getD 12 false = false) : Bts w base sv3 st2 ∧ Grew W w sv sv3 := by
  unfold BgE at h
  rw [y0, if_neg (by simp)] at h
  rw [y1, if_neg (by simp)] at h
  rw [y2, if_neg (by simp)] at h
  rw [no, if_pos rfl] at h
  exact h
theorem BgE.to3 (y0 : l.getD 5 false = true) (y1 : l.getD 6 false = true) (y2 : l.getD 9 false = true) (hs : 12 < l.size) (h : ∃ w3, w = w3.setCell ⟨wb, 0, none⟩ sv3 ∧ Bts w3 base sv3 st2 ∧ Grew W w3 sv sv3) : BgE base vb wb mb nb sv tv pv par nm st stA st2 N nB sv2 sv3 W w (l.setIfInBounds 12 true) := by
  unfold BgE
  rw [set_other (show 12 ≠ 5 by decide), y0, if_neg (by simp)]
  rw [set_other (show 12 ≠ 6 by decide), y1, if_neg (by simp)]
  rw [set_other (show 12 ≠ 9 by decide), y2, if_neg (by simp)]
  rw [set_here hs, if_neg (by simp)]
  exact h
theorem BgF.ghost0 {nB' : Nat} {j : Nat} {u : Value} (h : BgF base vb wb mb nb sv tv pv par nm st stA st2 N nB sv2 sv3 j u w) (n0 : j ≠ 5) : BgF base vb wb mb nb sv tv pv par nm st stA st2 N nB' sv2 sv3 j u w := by
  unfold BgF at *
  split at h
  all_goals first
    | exact h
    | exact absurd rfl n0
theorem BgF.ghost1 {sv2' : Value} {j : Nat} {u : Value} (h : BgF base vb wb mb nb sv tv pv par nm st stA st2 N nB sv2 sv3 j u w) (n0 : j ≠ 6) : BgF base vb wb mb nb sv tv pv par nm st stA st2 N nB sv2' sv3 j u w := by
  unfold BgF at *
  split at h
  all_goals first
    | exact h
    | exact absurd rfl n0
theorem BgF.ghost2 {sv3' : Value} {j : Nat} {u : Value} (h : BgF base vb wb mb nb sv tv pv par nm st stA st2 N nB sv2 sv3 j u w) (n0 : j ≠ 9) : BgF base vb wb mb nb sv tv pv par nm st stA st2 N nB sv2 sv3' j u w := by
  unfold BgF at *
  split at h
  all_goals first
    | exact h
    | exact absurd rfl n0
theorem BgF.world {j : Nat} {u : Value} {w' : World} (h : BgF base vb wb mb nb sv tv pv par nm st stA st2 N nB sv2 sv3 j u w) : BgF base vb wb mb nb sv tv pv par nm st stA st2 N nB sv2 sv3 j u w' := by
  unfold BgF at *
  split at h
  all_goals exact h
end

set_option maxHeartbeats 8000000 in
set_option maxRecDepth 100000 in
theorem bg_region9 {Q : Exit → Act → World → Prop} (base vb wb mb nb : Nat) (sv tv pv : Value) (par : Int) (nm : ByteArray) (st stA st2 : List UInt8) (N : List ByteArray) (W w : World) (A : Act) (hsz : A.tmps.size = 132) (hW : WrAt W base wb mb sv tv st N) (hst : st.length ≤ 900000000) (hnm : nm.size ≤ 1000) (hsA : Hid (stA = st ++ b4 1)) (hst2 : Hid (st2 = stA ++ padT 1 nm.data.toList)) (hbase : base ≤ W.heap.size)
    (a3 : A.tmps.getD 3 undef = .pointer (some ⟨vb, 0, none⟩)) (a7 : A.tmps.getD 7 undef = .pointer (some ⟨nb, 0, none⟩)) (hC0 : BgC base vb wb mb nb sv tv pv par nm st stA st2 N W w) (hE0 : Keeps (fun _ => False) W w)
    (hQ : ∀ c w' (nB : Nat) (sv2 : Value) (sv3 : Value), SameBut bgOps A c → (∃ w3, w' = w3.setCell ⟨wb, 0, none⟩ sv3 ∧ Bts w3 base sv3 st2 ∧ Grew W w3 sv sv3) → Q .normal c w') :
    wpAny Tryz.prog .any bgOps Q bgOps.size (Array.replicate bgOps.size false) A w := by
  refine wpAny_inv2 (fun l c wx => ∃ nB sv2 sv3, RInvF bgOps A (BgF base vb wb mb nb sv tv pv par nm st stA st2 N nB sv2 sv3) (fun _ => True) l c wx ∧ (l.getD 12 false = false → BgC base vb wb mb nb sv tv pv par nm st stA st2 N W wx) ∧ BgE base vb wb mb nb sv tv pv par nm st stA st2 N nB sv2 sv3 W wx l) bgR ?hend ?hstep _ _ _ _ (by simp) (by simp) ⟨0, .slice none 0 0, .slice none 0 0, RInvF.start trivial, fun _ => hC0, by unfold BgE; rw [if_pos (rep_no _ _)]; exact hE0⟩
  case hend =>
    rintro l c wx ⟨nB, sv2, sv3, hI, hC, hE⟩ hl
    have hh : ∀ k, k < 13 → l.getD k false = true := fun k hk => hl k (by rw [bgRn]; exact hk)
    have hEm : ∃ w3, wx = w3.setCell ⟨wb, 0, none⟩ sv3 ∧ Bts w3 base sv3 st2 ∧ Grew W w3 sv sv3 := by
      unfold BgE at hE
      rw [hh 5 (by decide), if_neg (by simp)] at hE
      rw [hh 6 (by decide), if_neg (by simp)] at hE
      rw [hh 9 (by decide), if_neg (by simp)] at hE
      rw [hh 12 (by decide), if_neg (by simp)] at hE
      exact hE
    exact hQ c wx nB sv2 sv3 hI.1.1  hEm
  intro l c wx hIx i' op ho hl hall K' hK'
  obtain ⟨nB, sv2, sv3, hI, hC, hE⟩ := hIx
  have hls : l.size = 13 := by rw [hI.1.2.2.1.1, bgRn]
  have hi' : i' < 13 := by rw [← bgRn]; exact (Array.getElem?_eq_some_iff.1 ho).1
  have ho2 := ho
  simp only [bgOps, regOps, Tryz.f33, Option.getD_some, reduceIte, Nat.reduceEqDiff] at ho
  have s3 := (hI.slot 3 (by kernel_rfl)).trans a3
  have s7 := (hI.slot 7 (by kernel_rfl)).trans a7
  have fs := And.intro True.intro True.intro
  simp only [Array.getD_eq_getD_getElem?] at s3 s7
  have hic : i' = 0 ∨ i' = 1 ∨ i' = 2 ∨ i' = 3 ∨ i' = 4 ∨ i' = 5 ∨ i' = 6 ∨ i' = 7 ∨ i' = 8 ∨ i' = 9 ∨ i' = 10 ∨ i' = 11 ∨ i' = 12 := by omega
  clear hi'
  rcases hic with rfl | rfl | rfl | rfl | rfl | rfl | rfl | rfl | rfl | rfl | rfl | rfl | rfl
  all_goals cases ho
  · have hc := hC (hI.1.2.2.1.2.no_far 13 hl (by kernel_rfl : farB bgOps 13 12 0 = true))
    have x0 := hc.1.cell 0
    go_simp
    exact hK' _ _ ⟨nB, sv2, sv3, hI.step bgRa 0 31 rfl (by rw [hsz]; decide) _ _ ho2 hall trivial (fun _ _ h => h) rfl, (fun h => hC (listed_set h)), hE.other (by decide) (by decide) (by decide) (by decide)⟩
  · have hc := hC (hI.1.2.2.1.2.no_far 13 hl (by kernel_rfl : farB bgOps 13 12 1 = true))
    have x0 := hc.1.cell 0
    go_simp
    exact hK' _ _ ⟨nB, sv2, sv3, hI.step bgRa 1 32 rfl (by rw [hsz]; decide) _ _ ho2 hall trivial (fun _ _ h => h) rfl, (fun h => hC (listed_set h)), hE.other (by decide) (by decide) (by decide) (by decide)⟩
  · have e1 : c.tmps.getD 32 undef = .pointer (some ⟨wb, 0, none⟩) := hI.fact 1 32 rfl (hI.1.2.2.1.2.yes_far 13 ho2 hall (by decide) (by kernel_rfl))
    have f1 := e1
    simp only [Array.getD_eq_getD_getElem?] at e1
    go_simp
    exact hK' _ _ ⟨nB, sv2, sv3, hI.step bgRa 2 33 rfl (by rw [hsz]; decide) _ _ ho2 hall trivial (fun _ _ h => h) rfl, (fun h => hC (listed_set h)), hE.other (by decide) (by decide) (by decide) (by decide)⟩
  · have e2 : c.tmps.getD 33 undef = .pointer (some ⟨wb, 0, none⟩) := hI.fact 2 33 rfl (hI.1.2.2.1.2.yes_far 13 ho2 hall (by decide) (by kernel_rfl))
    have f2 := e2
    simp only [Array.getD_eq_getD_getElem?] at e2
    go_simp
    exact hK' _ _ ⟨nB, sv2, sv3, hI.step bgRa 3 34 rfl (by rw [hsz]; decide) _ _ ho2 hall trivial (fun _ _ h => h) rfl, (fun h => hC (listed_set h)), hE.other (by decide) (by decide) (by decide) (by decide)⟩
  · have e3 : c.tmps.getD 34 undef = .pointer (some ⟨wb, 0, none⟩) := hI.fact 3 34 rfl (hI.1.2.2.1.2.yes_far 13 ho2 hall (by decide) (by kernel_rfl))
    have f3 := e3
    simp only [Array.getD_eq_getD_getElem?] at e3
    have hc := hC (hI.1.2.2.1.2.no_far 13 hl (by kernel_rfl : farB bgOps 13 12 4 = true))
    have x0 := hc.2.1.cell 0
    go_simp
    exact hK' _ _ ⟨nB, sv2, sv3, hI.step bgRa 4 35 rfl (by rw [hsz]; decide) _ _ ho2 hall trivial (fun _ _ h => h) rfl, (fun h => hC (listed_set h)), hE.other (by decide) (by decide) (by decide) (by decide)⟩
  · have hc := hC (hI.1.2.2.1.2.no_far 13 hl (by kernel_rfl : farB bgOps 13 12 5 = true))
    have hp := hE.at0  hl
    have un := hI.1.2.2.1.2.no_far 13 hl (by kernel_rfl : farB bgOps 13 6 5 = true)
    have hp2 : Keeps (fun _ => False) W (wx.alloc (.cells #[.int .i64 1] 3)) ∧ Holds (wx.alloc (.cells #[.int .i64 1] 3)) wx.heap.size #[.int .i64 1] 3 ∧ W.heap.size ≤ wx.heap.size := ⟨hp.alloc _, Holds.new _ _ _, hp.size⟩
    have hc2 : BgC base vb wb mb nb sv tv pv par nm st stA st2 N W (wx.alloc (.cells #[.int .i64 1] 3)) := ⟨hc.1.alloc _, hc.2.1.alloc _, hc.2.2.alloc _⟩
    go_simp
    have hJ : RInvF bgOps A (BgF base vb wb mb nb sv tv pv par nm st stA st2 N (wx.heap.size) sv2 sv3) (fun _ => True) l c wx := ⟨hI.1.other (fun j hj u hF => BgF.ghost0 hF (yes_no hj hl)), hI.2⟩
    exact hK' _ _ ⟨wx.heap.size, _, _, hJ.step bgRa 5 36 rfl (by rw [hsz]; decide) _ _ ho2 hall trivial (fun _ _ h => BgF.world h) rfl, fun _ => hc2, BgE.to0  (by rw [hls]; decide) un hp2⟩
  · have e4 : c.tmps.getD 35 undef = sv := hI.fact 4 35 rfl (hI.1.2.2.1.2.yes_far 13 ho2 hall (by decide) (by kernel_rfl))
    have f4 := e4
    simp only [Array.getD_eq_getD_getElem?] at e4
    have e5 : c.tmps.getD 36 undef = .slice (some ⟨nB, 0, none⟩) 1 1 := hI.fact 5 36 rfl (hI.1.2.2.1.2.yes_far 13 ho2 hall (by decide) (by kernel_rfl))
    have f5 := e5
    simp only [Array.getD_eq_getD_getElem?] at e5
    have hc := hC (hI.1.2.2.1.2.no_far 13 hl (by kernel_rfl : farB bgOps 13 12 6 = true))
    have y0 : l.getD 5 false = true := hI.1.2.2.1.2.yes_far 13 ho2 hall (by decide) (by kernel_rfl)
    have hp := hE.at1 y0 hl
    have un := hI.1.2.2.1.2.no_far 13 hl (by kernel_rfl : farB bgOps 13 9 6 = true)
    obtain ⟨hp0, hpB, hpN⟩ := hp
    have hsn : ∀ b, sv.ownBlock = some b → Value.ownBlock (.slice (some ⟨nB, 0, none⟩) 1 1) ≠ some b := fun b hb e => by
      have e2 : nB = b := Option.some.inj e
      obtain ⟨xs, hx⟩ := (bts_holds hW.s hb).2
      have := hx.lt
      omega
    go_simp
    refine (blob_put base _ (.slice (some ⟨nB, 0, none⟩) 1 1) st [1] _ (hW.s.keeps hp0 (fun _ _ e => e)) (list_held (l := [1]) hpB) hsn (by simp) (by simp) (by omega) (Nat.le_trans hbase hp0.size)).mono ?_
    rintro e w2 ⟨s7, rfl, hb3, hG3⟩
    go_simp
    have hp2 : Bts w2 base s7 stA ∧ Grew W w2 sv s7 := ⟨by rw [hsA.out, ← bytes4_b4 1 (by omega)]; simpa [b4s] using hb3, hG3.after hp0⟩
    have hS0 := hW.s.keeps hp0 (fun _ _ e => e)
    have hc2 : BgC base vb wb mb nb sv tv pv par nm st stA st2 N W w2 := ⟨hc.1.keeps hG3.1 (bts_not hS0 hc.1 (by decide)), hc.2.1.keeps hG3.1 (bts_not hS0 hc.2.1 (by decide)), hc.2.2.keeps hG3.1 (bts_not hS0 hc.2.2 (by decide))⟩
    have hJ : RInvF bgOps A (BgF base vb wb mb nb sv tv pv par nm st stA st2 N nB (s7) sv3) (fun _ => True) l c wx := ⟨hI.1.other (fun j hj u hF => BgF.ghost1 hF (yes_no hj hl)), hI.2⟩
    exact hK' _ _ ⟨_, s7, _, hJ.step bgRa 6 37 rfl (by rw [hsz]; decide) _ _ ho2 hall trivial (fun _ _ h => BgF.world h) rfl, fun _ => hc2, BgE.to1 y0 (by rw [hls]; decide) un hp2⟩
  · go_simp
    exact hK' _ _ ⟨nB, sv2, sv3, hI.step bgRa 7 38 rfl (by rw [hsz]; decide) _ _ ho2 hall trivial (fun _ _ h => h) rfl, (fun h => hC (listed_set h)), hE.other (by decide) (by decide) (by decide) (by decide)⟩
  · have e7 : c.tmps.getD 38 undef = .pointer (some ⟨nb, 1, none⟩) := hI.fact 7 38 rfl (hI.1.2.2.1.2.yes_far 13 ho2 hall (by decide) (by kernel_rfl))
    have f7 := e7
    simp only [Array.getD_eq_getD_getElem?] at e7
    have hc := hC (hI.1.2.2.1.2.no_far 13 hl (by kernel_rfl : farB bgOps 13 12 8 = true))
    have x0 := hc.2.2.cell 1
    go_simp
    exact hK' _ _ ⟨nB, sv2, sv3, hI.step bgRa 8 39 rfl (by rw [hsz]; decide) _ _ ho2 hall trivial (fun _ _ h => h) rfl, (fun h => hC (listed_set h)), hE.other (by decide) (by decide) (by decide) (by decide)⟩
  · have e6 : c.tmps.getD 37 undef = sv2 := hI.fact 6 37 rfl (hI.1.2.2.1.2.yes_far 13 ho2 hall (by decide) (by kernel_rfl))
    have f6 := e6
    simp only [Array.getD_eq_getD_getElem?] at e6
    have e8 : c.tmps.getD 39 undef = .string nm := hI.fact 8 39 rfl (hI.1.2.2.1.2.yes_far 13 ho2 hall (by decide) (by kernel_rfl))
    have f8 := e8
    simp only [Array.getD_eq_getD_getElem?] at e8
    have hc := hC (hI.1.2.2.1.2.no_far 13 hl (by kernel_rfl : farB bgOps 13 12 9 = true))
    have y0 : l.getD 5 false = true := hI.1.2.2.1.2.yes_far 13 ho2 hall (by decide) (by kernel_rfl)
    have y1 : l.getD 6 false = true := hI.1.2.2.1.2.yes_far 13 ho2 hall (by decide) (by kernel_rfl)
    have hp := hE.at2 y0 y1 hl
    have un := hI.1.2.2.1.2.no_far 13 hl (by kernel_rfl : farB bgOps 13 12 9 = true)
    obtain ⟨hp0, hpG⟩ := hp
    have hal : stA.length ≤ 1000000000 := by rw [hsA.out, List.length_append, b4_len]; omega
    go_simp
    refine (blob_padded base sv2 stA nm 1 _ hp0 (by omega) (by omega) hal (Nat.le_trans hbase hpG.1.size)).mono ?_
    rintro e w2 ⟨s7, rfl, hb3, hG3⟩
    go_simp
    have hp2 : Bts w2 base s7 st2 ∧ Grew W w2 sv s7 := ⟨by rw [hst2.out]; exact hb3, hpG.trans hG3⟩
    have hc2 : BgC base vb wb mb nb sv tv pv par nm st stA st2 N W w2 := ⟨hc.1.keeps hG3.1 (bts_not hp0 hc.1 (by decide)), hc.2.1.keeps hG3.1 (bts_not hp0 hc.2.1 (by decide)), hc.2.2.keeps hG3.1 (bts_not hp0 hc.2.2 (by decide))⟩
    have hJ : RInvF bgOps A (BgF base vb wb mb nb sv tv pv par nm st stA st2 N nB sv2 (s7)) (fun _ => True) l c wx := ⟨hI.1.other (fun j hj u hF => BgF.ghost2 hF (yes_no hj hl)), hI.2⟩
    exact hK' _ _ ⟨_, _, s7, hJ.step bgRa 9 40 rfl (by rw [hsz]; decide) _ _ ho2 hall trivial (fun _ _ h => BgF.world h) rfl, fun _ => hc2, BgE.to2 y0 y1 (by rw [hls]; decide) un hp2⟩
  · have e0 : c.tmps.getD 31 undef = .pointer (some ⟨wb, 0, none⟩) := hI.fact 0 31 rfl (hI.1.2.2.1.2.yes_far 13 ho2 hall (by decide) (by kernel_rfl))
    have f0 := e0
    simp only [Array.getD_eq_getD_getElem?] at e0
    go_simp
    exact hK' _ _ ⟨nB, sv2, sv3, hI.step bgRa 10 41 rfl (by rw [hsz]; decide) _ _ ho2 hall trivial (fun _ _ h => h) rfl, (fun h => hC (listed_set h)), hE.other (by decide) (by decide) (by decide) (by decide)⟩
  · have e10 : c.tmps.getD 41 undef = .pointer (some ⟨wb, 0, none⟩) := hI.fact 10 41 rfl (hI.1.2.2.1.2.yes_far 13 ho2 hall (by decide) (by kernel_rfl))
    have f10 := e10
    simp only [Array.getD_eq_getD_getElem?] at e10
    go_simp
    exact hK' _ _ ⟨nB, sv2, sv3, hI.step bgRa 11 42 rfl (by rw [hsz]; decide) _ _ ho2 hall trivial (fun _ _ h => h) rfl, (fun h => hC (listed_set h)), hE.other (by decide) (by decide) (by decide) (by decide)⟩
  · have e9 : c.tmps.getD 40 undef = sv3 := hI.fact 9 40 rfl (hI.1.2.2.1.2.yes_far 13 ho2 hall (by decide) (by kernel_rfl))
    have f9 := e9
    simp only [Array.getD_eq_getD_getElem?] at e9
    have e11 : c.tmps.getD 42 undef = .pointer (some ⟨wb, 0, none⟩) := hI.fact 11 42 rfl (hI.1.2.2.1.2.yes_far 13 ho2 hall (by decide) (by kernel_rfl))
    have f11 := e11
    simp only [Array.getD_eq_getD_getElem?] at e11
    have hc := hC (hI.1.2.2.1.2.no_far 13 hl (by kernel_rfl : farB bgOps 13 12 12 = true))
    have y0 : l.getD 5 false = true := hI.1.2.2.1.2.yes_far 13 ho2 hall (by decide) (by kernel_rfl)
    have y1 : l.getD 6 false = true := hI.1.2.2.1.2.yes_far 13 ho2 hall (by decide) (by kernel_rfl)
    have y2 : l.getD 9 false = true := hI.1.2.2.1.2.yes_far 13 ho2 hall (by decide) (by kernel_rfl)
    have hp := hE.at3 y0 y1 y2 hl
    obtain ⟨a2, c2, rfl⟩ := hp.1.shape
    have x0 := hc.2.1.cell 0
    have x1 := hc.2.1.free 0
    have x2 := hc.2.1.lt
    go_simp
    have hp2 := (⟨_, rfl, hp.1, hp.2⟩ : ∃ w3, wx.setCell ⟨wb, 0, none⟩ (.slice a2 st2.length c2) = w3.setCell ⟨wb, 0, none⟩ (.slice a2 st2.length c2) ∧ Bts w3 base (.slice a2 st2.length c2) st2 ∧ Grew W w3 sv (.slice a2 st2.length c2))
    exact hK' _ _ ⟨_, _, _, hI.stepN 12 rfl _ ho2 hall trivial (fun _ _ h => BgF.world h) trivial, fun h => absurd h (by rw [set_here (by rw [hls]; decide)]; simp), BgE.to3 y0 y1 y2 (by rw [hls]; decide) hp2⟩
end Go.Proofs.YtofhcgbihonckaaGreatDoor

namespace Go.Proofs.YtofhcgbihonckaaGreatDoor
open Go.RowKit
open Go.ChangeMaps
noncomputable def bhOps : Array Oper := (regOps (Tryz.f33.body.getD .skip) 13).getD #[]
theorem bhR : inRow2 .any bhOps = true := by kernel_rfl
theorem bhRa : apartB bhOps = true := by kernel_rfl
theorem bhRn : bhOps.size = 20 := by kernel_rfl
def BhF (_ _ wb _ qb : Nat) (sv _ : Value) (pn vl : ByteArray) (_ _ _ : List UInt8) (_ N2 : List ByteArray) (_ : Value) (nB : Nat) (_ : World) (sv2 : Value) (sv3 : Value) (j : Nat) : Value → World → Prop := match j with
  | 0 => fun u _ => u = .pointer (some ⟨wb, 0, none⟩)
  | 1 => fun u _ => u = .pointer (some ⟨wb, 0, none⟩)
  | 2 => fun u _ => u = .pointer (some ⟨wb, 0, none⟩)
  | 3 => fun u _ => u = .pointer (some ⟨wb, 0, none⟩)
  | 4 => fun u _ => u = sv
  | 5 => fun u _ => u = .pointer (some ⟨qb, 1, none⟩)
  | 6 => fun u _ => u = .string vl
  | 7 => fun u _ => u = .int .i64 vl.size
  | 8 => fun u _ => u = .pointer (some ⟨wb, 0, none⟩)
  | 9 => fun u _ => u = .pointer (some ⟨qb, 0, none⟩)
  | 10 => fun u _ => u = .string pn
  | 11 => fun u _ => u = .int .i64 (plcB N2 pn)
  | 12 => fun u _ => u = .slice (some ⟨nB, 0, none⟩) 3 3
  | 13 => fun u _ => u = sv2
  | 14 => fun u _ => u = .pointer (some ⟨qb, 1, none⟩)
  | 15 => fun u _ => u = .string vl
  | 16 => fun u _ => u = sv3
  | 17 => fun u _ => u = .pointer (some ⟨wb, 0, none⟩)
  | 18 => fun u _ => u = .pointer (some ⟨wb, 0, none⟩)
  | _ => fun _ _ => True
/-- What holds until the chain's end. -/
def BhC (_ vb wb mb qb : Nat) (sv _ : Value) (pn vl : ByteArray) (_ _ _ : List UInt8) (_ _ : List ByteArray) (_ w : World) : Prop := (Holds w vb #[.pointer (some ⟨wb, 0, none⟩)] 99) ∧ (∃ x, Holds w wb #[sv, x, .map (some mb)] 102) ∧ Holds w qb #[.string pn, .string vl] 54
/-- Where the chain stands. -/
def BhE (base _ wb mb _ : Nat) (sv tv : Value) (pn vl : ByteArray) (st stA st2 : List UInt8) (_ N2 : List ByteArray) (tv2 : Value) (nB : Nat) (W1 : World) (sv2 : Value) (sv3 : Value) (W w : World) (l : Array Bool) : Prop :=
  if l.getD 11 false = false then (Keeps (fun _ => False) W w) else
  if l.getD 12 false = false then (WrAt w base wb mb sv tv2 st N2 ∧ Keeps (fun g => g = wb ∨ g = mb ∨ tv.ownBlock = some g) W w ∧ (∀ g, tv2.ownBlock = some g → tv.ownBlock = some g ∨ W.heap.size ≤ g)) else
  if l.getD 13 false = false then ((WrAt W1 base wb mb sv tv2 st N2 ∧ Keeps (fun g => g = wb ∨ g = mb ∨ tv.ownBlock = some g) W W1 ∧ (∀ g, tv2.ownBlock = some g → tv.ownBlock = some g ∨ W.heap.size ≤ g)) ∧ Holds w nB #[.int .i64 3, .int .i64 vl.size, .int .i64 (plcB N2 pn)] 3 ∧ w = W1 ∧ W.heap.size ≤ nB ∧ (∀ b, sv.ownBlock = some b → b < nB)) else
  if l.getD 16 false = false then ((WrAt W1 base wb mb sv tv2 st N2 ∧ Keeps (fun g => g = wb ∨ g = mb ∨ tv.ownBlock = some g) W W1 ∧ (∀ g, tv2.ownBlock = some g → tv.ownBlock = some g ∨ W.heap.size ≤ g)) ∧ Bts w base sv2 stA ∧ Grew W1 w sv sv2) else
  if l.getD 19 false = false then ((WrAt W1 base wb mb sv tv2 st N2 ∧ Keeps (fun g => g = wb ∨ g = mb ∨ tv.ownBlock = some g) W W1 ∧ (∀ g, tv2.ownBlock = some g → tv.ownBlock = some g ∨ W.heap.size ≤ g)) ∧ Bts w base sv3 st2 ∧ Grew W1 w sv sv3) else
  (WrAt W1 base wb mb sv tv2 st N2 ∧ Keeps (fun g => g = wb ∨ g = mb ∨ tv.ownBlock = some g) W W1 ∧ (∀ g, tv2.ownBlock = some g → tv.ownBlock = some g ∨ W.heap.size ≤ g)) ∧ ∃ w3, w = w3.setCell ⟨wb, 0, none⟩ sv3 ∧ Bts w3 base sv3 st2 ∧ Grew W1 w3 sv sv3
section
variable {base vb wb mb qb : Nat} {sv tv : Value} {pn vl : ByteArray} {st stA st2 : List UInt8} {N N2 : List ByteArray} {tv2 : Value} {nB : Nat} {W1 : World} {sv2 : Value} {sv3 : Value} {W w : World} {l : Array Bool}
theorem BhE.other {j : Nat} (h : BhE base vb wb mb qb sv tv pn vl st stA st2 N N2 tv2 nB W1 sv2 sv3 W w l) (n0 : j ≠ 11) (n1 : j ≠ 12) (n2 : j ≠ 13) (n3 : j ≠ 16) (n4 : j ≠ 19) : BhE base vb wb mb qb sv tv pn vl st stA st2 N N2 tv2 nB W1 sv2 sv3 W w (l.setIfInBounds j true) := by
  unfold BhE at h ⊢
  rw [set_other n0, set_other n1, set_other n2, set_other n3, set_other n4]
  exact h
theorem BhE.at0 (h : BhE base vb wb mb qb sv tv pn vl st stA st2 N N2 tv2 nB W1 sv2 sv3 W w l)  (no : l.getD 11 false = false) : Keeps (fun _ => False) W w := by
  unfold BhE at h
  rw [no, if_pos rfl] at h
  exact h
theorem BhE.to0  (hs : 11 < l.size) (no : l.getD 12 false = false) (h : WrAt w base wb mb sv tv2 st N2 ∧ Keeps (fun g => g = wb ∨ g = mb ∨ tv.ownBlock = some g) W w ∧ (∀ g, tv2.ownBlock = some g → tv.ownBlock = some g ∨ W.heap.size ≤ g)) : BhE base vb wb mb qb sv tv pn vl st stA st2 N N2 tv2 nB W1 sv2 sv3 W w (l.setIfInBounds 11 true) := by
  unfold BhE
  rw [set_here hs, if_neg (by simp)]
  rw [set_other (show 11 ≠ 12 by decide), no, if_pos rfl]
  exact h
theorem BhE.at1 (h : BhE base vb wb mb qb sv tv pn vl st stA st2 N N2 tv2 nB W1 sv2 sv3 W w l) (y0 : l.getD 11 false = true) (no : l.getD 12 false = false) : WrAt w base wb mb sv tv2 st N2 ∧ Keeps (fun g => g = wb ∨ g = mb ∨ tv.ownBlock = some g) W w ∧ (∀ g, tv2.ownBlock = some g → tv.ownBlock = some g ∨ W.heap.size ≤ g) := by
  unfold BhE at h
  rw [y0, if_neg (by simp)] at h
  rw [no, if_pos rfl] at h
  exact h
theorem BhE.to1 (y0 : l.getD 11 false = true) (hs : 12 < l.size) (no : l.getD 13 false = false) (h : (WrAt W1 base wb mb sv tv2 st N2 ∧ Keeps (fun g => g = wb ∨ g = mb ∨ tv.ownBlock = some g) W W1 ∧ (∀ g, tv2.ownBlock = some g → tv.ownBlock = some g ∨ W.heap.size ≤ g)) ∧ Holds w nB #[.int .i64 3, .int .i64 vl.size, .int .i64 (plcB N2 pn)] 3 ∧ w = W1 ∧ W.heap.size ≤ nB ∧ (∀ b, sv.ownBlock = some b → b < nB)) : BhE base vb wb mb qb sv tv pn vl st stA st2 N N2 tv2 nB W1 sv2 sv3 W w (l.setIfInBounds 12 true) := by
  unfold BhE
  rw [set_other (show 12 ≠ 11 by decide), y0, if_neg (by simp)]
  rw [set_here hs, if_neg (by simp)]
  rw [set_other (show 12 ≠ 13 by decide), no, if_pos rfl]
  exact h
theorem BhE.at2 (h : BhE base vb wb mb qb sv tv pn vl st stA st2 N N2 tv2 nB W1 sv2 sv3 W w l) (y0 : l.getD 11 false = true) (y1 : l.getD 12 false = true) (no : l.getD 13 false = false) : (WrAt W1 base wb mb sv tv2 st N2 ∧ Keeps (fun g => g = wb ∨ g = mb ∨ tv.ownBlock = some g) W W1 ∧ (∀ g, tv2.ownBlock = some g → tv.ownBlock = some g ∨ W.heap.size ≤ g)) ∧ Holds w nB #[.int .i64 3, .int .i64 vl.size, .int .i64 (plcB N2 pn)] 3 ∧ w = W1 ∧ W.heap.size ≤ nB ∧ (∀ b, sv.ownBlock = some b → b < nB) := by
  unfold BhE at h
  rw [y0, if_neg (by simp)] at h
  rw [y1, if_neg (by simp)] at h
  rw [no, if_pos rfl] at h
  exact h
theorem BhE.to2 (y0 : l.getD 11 false = true) (y1 : l.getD 12 false = true) (hs : 13 < l.size) (no : l.getD 16 false = false) (h : (WrAt W1 base wb mb sv tv2 st N2 ∧ Keeps (fun g => g = wb ∨ g = mb ∨ tv.ownBlock = some g) W W1 ∧ (∀ g, tv2.ownBlock = some g → tv.ownBlock = some g ∨ W.heap.size ≤ g)) ∧ Bts w base sv2 stA ∧ Grew W1 w sv sv2) : BhE base vb wb mb qb sv tv pn vl st stA st2 N N2 tv2 nB W1 sv2 sv3 W w (l.setIfInBounds 13 true) := by
  unfold BhE
  rw [set_other (show 13 ≠ 11 by decide), y0, if_neg (by simp)]
  rw [set_other (show 13 ≠ 12 by decide), y1, if_neg (by simp)]
  rw [set_here hs, if_neg (by simp)]
  rw [set_other (show 13 ≠ 16 by decide), no, if_pos rfl]
  exact h
theorem BhE.at3 (h : BhE base vb wb mb qb sv tv pn vl st stA st2 N N2 tv2 nB W1 sv2 sv3 W w l) (y0 : l.getD 11 false = true) (y1 : l.getD 12 false = true) (y2 : l.getD 13 false = true) (no : l.getD 16 false = false) : (WrAt W1 base wb mb sv tv2 st N2 ∧ Keeps (fun g => g = wb ∨ g = mb ∨ tv.ownBlock = some g) W W1 ∧ (∀ g, tv2.ownBlock = some g → tv.ownBlock = some g ∨ W.heap.size ≤ g)) ∧ Bts w base sv2 stA ∧ Grew W1 w sv sv2 := by
  unfold BhE at h
  rw [y0, if_neg (by simp)] at h
  rw [y1, if_neg (by simp)] at h
  rw [y2, if_neg (by simp)] at h
  rw [no, if_pos rfl] at h
  exact h
theorem BhE.to3 (y0 : l.getD 11 false = true) (y1 : l.getD 12 false = true) (y2 : l.getD 13 false = true) (hs : 16 < l.size) (no : l.getD 19 false = false) (h : (WrAt W1 base wb mb sv tv2 st N2 ∧ Keeps (fun g => g = wb ∨ g = mb ∨ tv.ownBlock = some g) W W1 ∧ (∀ g, tv2.ownBlock = some g → tv.ownBlock = some g ∨ W.heap.size ≤ g)) ∧ Bts w base sv3 st2 ∧ Grew W1 w sv sv3) : BhE base vb wb mb qb sv tv pn vl st stA st2 N N2 tv2 nB W1 sv2 sv3 W w (l.setIfInBounds 16 true) := by
  unfold BhE
  rw [set_other (show 16 ≠ 11 by decide), y0, if_neg (by simp)]
  rw [set_other (show 16 ≠ 12 by decide), y1, if_neg (by simp)]
  rw [set_other (show 16 ≠ 13 by decide), y2, if_neg (by simp)]
  rw [set_here hs, if_neg (by simp)]
  rw [set_other (show 16 ≠ 19 by decide), no, if_pos rfl]
  exact h
theorem BhE.at4 (h : BhE base vb wb mb qb sv tv pn vl st stA st2 N N2 tv2 nB W1 sv2 sv3 W w l) (y0 : l.getD 11 false = true) (y1 : l.getD 12 false = true) (y2 : l.getD 13 false = true) (y3 : l.getD 16 false = true) (no : l.getD 19 false = false) : (WrAt W1 base wb mb sv tv2 st N2 ∧ Keeps (fun g => g = wb ∨ g = mb ∨ tv.ownBlock = some g) W W1 ∧ (∀ g, tv2.ownBlock = some g → tv.ownBlock = some g ∨ W.heap.size ≤ g)) ∧ Bts w base sv3 st2 ∧ Grew W1 w sv sv3 := by
  unfold BhE at h
  rw [y0, if_neg (by simp)] at h
  rw [y1, if_neg (by simp)] at h
  rw [y2, if_neg (by simp)] at h
  rw [y3, if_neg (by simp)] at h
  rw [no, if_pos rfl] at h
  exact h
theorem BhE.to4 (y0 : l.getD 11 false = true) (y1 : l.getD 12 false = true) (y2 : l.getD 13 false = true) (y3 : l.getD 16 false = true) (hs : 19 < l.size) (h : (WrAt W1 base wb mb sv tv2 st N2 ∧ Keeps (fun g => g = wb ∨ g = mb ∨ tv.ownBlock = some g) W W1 ∧ (∀ g, tv2.ownBlock = some g → tv.ownBlock = some g ∨ W.heap.size ≤ g)) ∧ ∃ w3, w = w3.setCell ⟨wb, 0, none⟩ sv3 ∧ Bts w3 base sv3 st2 ∧ Grew W1 w3 sv sv3) : BhE base vb wb mb qb sv tv pn vl st stA st2 N N2 tv2 nB W1 sv2 sv3 W w (l.setIfInBounds 19 true) := by
  unfold BhE
  rw [set_other (show 19 ≠ 11 by decide), y0, if_neg (by simp)]
  rw [set_other (show 19 ≠ 12 by decide), y1, if_neg (by simp)]
  rw [set_other (show 19 ≠ 13 by decide), y2, if_neg (by simp)]
  rw [set_other (show 19 ≠ 16 by decide), y3, if_neg (by simp)]
  rw [set_here hs, if_neg (by simp)]
  exact h
theorem BhF.ghost0 {tv2' : Value} {j : Nat} {u : Value} (h : BhF base vb wb mb qb sv tv pn vl st stA st2 N N2 tv2 nB W1 sv2 sv3 j u w)  : BhF base vb wb mb qb sv tv pn vl st stA st2 N N2 tv2' nB W1 sv2 sv3 j u w := by
  unfold BhF at *
  split at h
  all_goals first
    | exact h
theorem BhF.ghost1 {nB' : Nat} {W1' : World} {j : Nat} {u : Value} (h : BhF base vb wb mb qb sv tv pn vl st stA st2 N N2 tv2 nB W1 sv2 sv3 j u w) (n0 : j ≠ 12) : BhF base vb wb mb qb sv tv pn vl st stA st2 N N2 tv2 nB' W1' sv2 sv3 j u w := by
  unfold BhF at *
  split at h
  all_goals first
    | exact h
    | exact absurd rfl n0
theorem BhF.ghost2 {sv2' : Value} {j : Nat} {u : Value} (h : BhF base vb wb mb qb sv tv pn vl st stA st2 N N2 tv2 nB W1 sv2 sv3 j u w) (n0 : j ≠ 13) : BhF base vb wb mb qb sv tv pn vl st stA st2 N N2 tv2 nB W1 sv2' sv3 j u w := by
  unfold BhF at *
  split at h
  all_goals first
    | exact h
    | exact absurd rfl n0
theorem BhF.ghost3 {sv3' : Value} {j : Nat} {u : Value} (h : BhF base vb wb mb qb sv tv pn vl st stA st2 N N2 tv2 nB W1 sv2 sv3 j u w) (n0 : j ≠ 16) : BhF base vb wb mb qb sv tv pn vl st stA st2 N N2 tv2 nB W1 sv2 sv3' j u w := by
  unfold BhF at *
  split at h
  all_goals first
    | exact h
    | exact absurd rfl n0
theorem BhF.world {j : Nat} {u : Value} {w' : World} (h : BhF base vb wb mb qb sv tv pn vl st stA st2 N N2 tv2 nB W1 sv2 sv3 j u w) : BhF base vb wb mb qb sv tv pn vl st stA st2 N N2 tv2 nB W1 sv2 sv3 j u w' := by
  unfold BhF at *
  split at h
  all_goals exact h
end

set_option maxHeartbeats 8000000 in
set_option maxRecDepth 100000 in
theorem bh_region13 {Q : Exit → Act → World → Prop} (base vb wb mb qb : Nat) (sv tv : Value) (pn vl : ByteArray) (st stA st2 : List UInt8) (N N2 : List ByteArray) (W w : World) (A : Act) (hsz : A.tmps.size = 132) (hW : WrAt W base wb mb sv tv st N) (hst : st.length ≤ 900000000) (hpn : pn.size ≤ 1000) (hvl : vl.size ≤ 1000) (hsn : (strsT N).length ≤ 900000000) (hN2 : Hid (N2 = addN N pn)) (hsA : Hid (stA = st ++ (b4 3 ++ b4 vl.size ++ b4 (plcB N2 pn)))) (hst2 : Hid (st2 = stA ++ padT 0 vl.data.toList)) (hpl : plcB N2 pn < 4294967296) (hbase : base ≤ W.heap.size)
    (a3 : A.tmps.getD 3 undef = .pointer (some ⟨vb, 0, none⟩)) (a9 : A.tmps.getD 9 undef = .pointer (some ⟨qb, 0, none⟩)) (hC0 : BhC base vb wb mb qb sv tv pn vl st stA st2 N N2 W w) (hE0 : Keeps (fun _ => False) W w)
    (hQ : ∀ c w' (tv2 : Value) (nB : Nat) (W1 : World) (sv2 : Value) (sv3 : Value), SameBut bhOps A c → ((WrAt W1 base wb mb sv tv2 st N2 ∧ Keeps (fun g => g = wb ∨ g = mb ∨ tv.ownBlock = some g) W W1 ∧ (∀ g, tv2.ownBlock = some g → tv.ownBlock = some g ∨ W.heap.size ≤ g)) ∧ ∃ w3, w' = w3.setCell ⟨wb, 0, none⟩ sv3 ∧ Bts w3 base sv3 st2 ∧ Grew W1 w3 sv sv3) → Q .normal c w') :
    wpAny Tryz.prog .any bhOps Q bhOps.size (Array.replicate bhOps.size false) A w := by
  refine wpAny_inv2 (fun l c wx => ∃ tv2 nB W1 sv2 sv3, RInvF bhOps A (BhF base vb wb mb qb sv tv pn vl st stA st2 N N2 tv2 nB W1 sv2 sv3) (fun _ => True) l c wx ∧ (l.getD 19 false = false → BhC base vb wb mb qb sv tv pn vl st stA st2 N N2 W wx) ∧ BhE base vb wb mb qb sv tv pn vl st stA st2 N N2 tv2 nB W1 sv2 sv3 W wx l) bhR ?hend ?hstep _ _ _ _ (by simp) (by simp) ⟨.slice none 0 0, 0, W, .slice none 0 0, .slice none 0 0, RInvF.start trivial, fun _ => hC0, by unfold BhE; rw [if_pos (rep_no _ _)]; exact hE0⟩
  case hend =>
    rintro l c wx ⟨tv2, nB, W1, sv2, sv3, hI, hC, hE⟩ hl
    have hh : ∀ k, k < 20 → l.getD k false = true := fun k hk => hl k (by rw [bhRn]; exact hk)
    have hEm : (WrAt W1 base wb mb sv tv2 st N2 ∧ Keeps (fun g => g = wb ∨ g = mb ∨ tv.ownBlock = some g) W W1 ∧ (∀ g, tv2.ownBlock = some g → tv.ownBlock = some g ∨ W.heap.size ≤ g)) ∧ ∃ w3, wx = w3.setCell ⟨wb, 0, none⟩ sv3 ∧ Bts w3 base sv3 st2 ∧ Grew W1 w3 sv sv3 := by
      unfold BhE at hE
      rw [hh 11 (by decide), if_neg (by simp)] at hE
      rw [hh 12 (by decide), if_neg (by simp)] at hE
      rw [hh 13 (by decide), if_neg (by simp)] at hE
      rw [hh 16 (by decide), if_neg (by simp)] at hE
      rw [hh 19 (by decide), if_neg (by simp)] at hE
      exact hE
    exact hQ c wx tv2 nB W1 sv2 sv3 hI.1.1  hEm
  intro l c wx hIx i' op ho hl hall K' hK'
  obtain ⟨tv2, nB, W1, sv2, sv3, hI, hC, hE⟩ := hIx
  have hls : l.size = 20 := by rw [hI.1.2.2.1.1, bhRn]
  have hi' : i' < 20 := by rw [← bhRn]; exact (Array.getElem?_eq_some_iff.1 ho).1
  have ho2 := ho
  simp only [bhOps, regOps, Tryz.f33, Option.getD_some, reduceIte, Nat.reduceEqDiff] at ho
  have s3 := (hI.slot 3 (by kernel_rfl)).trans a3
  have s9 := (hI.slot 9 (by kernel_rfl)).trans a9
  have fs := And.intro True.intro True.intro
  simp only [Array.getD_eq_getD_getElem?] at s3 s9
  have hic : i' = 0 ∨ i' = 1 ∨ i' = 2 ∨ i' = 3 ∨ i' = 4 ∨ i' = 5 ∨ i' = 6 ∨ i' = 7 ∨ i' = 8 ∨ i' = 9 ∨ i' = 10 ∨ i' = 11 ∨ i' = 12 ∨ i' = 13 ∨ i' = 14 ∨ i' = 15 ∨ i' = 16 ∨ i' = 17 ∨ i' = 18 ∨ i' = 19 := by omega
  clear hi'
  rcases hic with rfl | rfl | rfl | rfl | rfl | rfl | rfl | rfl | rfl | rfl | rfl | rfl | rfl | rfl | rfl | rfl | rfl | rfl | rfl | rfl
  all_goals cases ho
  · have hc := hC (hI.1.2.2.1.2.no_far 20 hl (by kernel_rfl : farB bhOps 20 19 0 = true))
    have x0 := hc.1.cell 0
    go_simp
    exact hK' _ _ ⟨tv2, nB, W1, sv2, sv3, hI.step bhRa 0 50 rfl (by rw [hsz]; decide) _ _ ho2 hall trivial (fun _ _ h => h) rfl, (fun h => hC (listed_set h)), hE.other (by decide) (by decide) (by decide) (by decide) (by decide)⟩
  · have hc := hC (hI.1.2.2.1.2.no_far 20 hl (by kernel_rfl : farB bhOps 20 19 1 = true))
    have x0 := hc.1.cell 0
    go_simp
    exact hK' _ _ ⟨tv2, nB, W1, sv2, sv3, hI.step bhRa 1 51 rfl (by rw [hsz]; decide) _ _ ho2 hall trivial (fun _ _ h => h) rfl, (fun h => hC (listed_set h)), hE.other (by decide) (by decide) (by decide) (by decide) (by decide)⟩
  · have e1 : c.tmps.getD 51 undef = .pointer (some ⟨wb, 0, none⟩) := hI.fact 1 51 rfl (hI.1.2.2.1.2.yes_far 20 ho2 hall (by decide) (by kernel_rfl))
    have f1 := e1
    simp only [Array.getD_eq_getD_getElem?] at e1
    go_simp
    exact hK' _ _ ⟨tv2, nB, W1, sv2, sv3, hI.step bhRa 2 52 rfl (by rw [hsz]; decide) _ _ ho2 hall trivial (fun _ _ h => h) rfl, (fun h => hC (listed_set h)), hE.other (by decide) (by decide) (by decide) (by decide) (by decide)⟩
  · have e2 : c.tmps.getD 52 undef = .pointer (some ⟨wb, 0, none⟩) := hI.fact 2 52 rfl (hI.1.2.2.1.2.yes_far 20 ho2 hall (by decide) (by kernel_rfl))
    have f2 := e2
    simp only [Array.getD_eq_getD_getElem?] at e2
    go_simp
    exact hK' _ _ ⟨tv2, nB, W1, sv2, sv3, hI.step bhRa 3 53 rfl (by rw [hsz]; decide) _ _ ho2 hall trivial (fun _ _ h => h) rfl, (fun h => hC (listed_set h)), hE.other (by decide) (by decide) (by decide) (by decide) (by decide)⟩
  · have e3 : c.tmps.getD 53 undef = .pointer (some ⟨wb, 0, none⟩) := hI.fact 3 53 rfl (hI.1.2.2.1.2.yes_far 20 ho2 hall (by decide) (by kernel_rfl))
    have f3 := e3
    simp only [Array.getD_eq_getD_getElem?] at e3
    have hc := hC (hI.1.2.2.1.2.no_far 20 hl (by kernel_rfl : farB bhOps 20 19 4 = true))
    obtain ⟨x, hx⟩ := hc.2.1
    have x0 := hx.cell 0
    go_simp
    exact hK' _ _ ⟨tv2, nB, W1, sv2, sv3, hI.step bhRa 4 54 rfl (by rw [hsz]; decide) _ _ ho2 hall trivial (fun _ _ h => h) rfl, (fun h => hC (listed_set h)), hE.other (by decide) (by decide) (by decide) (by decide) (by decide)⟩
  · go_simp
    exact hK' _ _ ⟨tv2, nB, W1, sv2, sv3, hI.step bhRa 5 55 rfl (by rw [hsz]; decide) _ _ ho2 hall trivial (fun _ _ h => h) rfl, (fun h => hC (listed_set h)), hE.other (by decide) (by decide) (by decide) (by decide) (by decide)⟩
  · have e5 : c.tmps.getD 55 undef = .pointer (some ⟨qb, 1, none⟩) := hI.fact 5 55 rfl (hI.1.2.2.1.2.yes_far 20 ho2 hall (by decide) (by kernel_rfl))
    have f5 := e5
    simp only [Array.getD_eq_getD_getElem?] at e5
    have hc := hC (hI.1.2.2.1.2.no_far 20 hl (by kernel_rfl : farB bhOps 20 19 6 = true))
    have x0 := hc.2.2.cell 1
    go_simp
    exact hK' _ _ ⟨tv2, nB, W1, sv2, sv3, hI.step bhRa 6 56 rfl (by rw [hsz]; decide) _ _ ho2 hall trivial (fun _ _ h => h) rfl, (fun h => hC (listed_set h)), hE.other (by decide) (by decide) (by decide) (by decide) (by decide)⟩
  · have e6 : c.tmps.getD 56 undef = .string vl := hI.fact 6 56 rfl (hI.1.2.2.1.2.yes_far 20 ho2 hall (by decide) (by kernel_rfl))
    have f6 := e6
    simp only [Array.getD_eq_getD_getElem?] at e6
    go_simp
    exact hK' _ _ ⟨tv2, nB, W1, sv2, sv3, hI.step bhRa 7 57 rfl (by rw [hsz]; decide) _ _ ho2 hall trivial (fun _ _ h => h) rfl, (fun h => hC (listed_set h)), hE.other (by decide) (by decide) (by decide) (by decide) (by decide)⟩
  · have hc := hC (hI.1.2.2.1.2.no_far 20 hl (by kernel_rfl : farB bhOps 20 19 8 = true))
    have x0 := hc.1.cell 0
    go_simp
    exact hK' _ _ ⟨tv2, nB, W1, sv2, sv3, hI.step bhRa 8 58 rfl (by rw [hsz]; decide) _ _ ho2 hall trivial (fun _ _ h => h) rfl, (fun h => hC (listed_set h)), hE.other (by decide) (by decide) (by decide) (by decide) (by decide)⟩
  · go_simp
    exact hK' _ _ ⟨tv2, nB, W1, sv2, sv3, hI.step bhRa 9 59 rfl (by rw [hsz]; decide) _ _ ho2 hall trivial (fun _ _ h => h) rfl, (fun h => hC (listed_set h)), hE.other (by decide) (by decide) (by decide) (by decide) (by decide)⟩
  · have e9 : c.tmps.getD 59 undef = .pointer (some ⟨qb, 0, none⟩) := hI.fact 9 59 rfl (hI.1.2.2.1.2.yes_far 20 ho2 hall (by decide) (by kernel_rfl))
    have f9 := e9
    simp only [Array.getD_eq_getD_getElem?] at e9
    have hc := hC (hI.1.2.2.1.2.no_far 20 hl (by kernel_rfl : farB bhOps 20 19 10 = true))
    have x0 := hc.2.2.cell 0
    go_simp
    exact hK' _ _ ⟨tv2, nB, W1, sv2, sv3, hI.step bhRa 10 60 rfl (by rw [hsz]; decide) _ _ ho2 hall trivial (fun _ _ h => h) rfl, (fun h => hC (listed_set h)), hE.other (by decide) (by decide) (by decide) (by decide) (by decide)⟩
  · have e8 : c.tmps.getD 58 undef = .pointer (some ⟨wb, 0, none⟩) := hI.fact 8 58 rfl (hI.1.2.2.1.2.yes_far 20 ho2 hall (by decide) (by kernel_rfl))
    have f8 := e8
    simp only [Array.getD_eq_getD_getElem?] at e8
    have e10 : c.tmps.getD 60 undef = .string pn := hI.fact 10 60 rfl (hI.1.2.2.1.2.yes_far 20 ho2 hall (by decide) (by kernel_rfl))
    have f10 := e10
    simp only [Array.getD_eq_getD_getElem?] at e10
    have hc := hC (hI.1.2.2.1.2.no_far 20 hl (by kernel_rfl : farB bhOps 20 19 11 = true))
    have hp := hE.at0  hl
    have un := hI.1.2.2.1.2.no_far 20 hl (by kernel_rfl : farB bhOps 20 12 11 = true)
    go_simp
    have hW2 := hW.keeps hp (fun e => e) (fun e => e) (fun _ _ e => e) (fun _ _ e => e)
    refine (blob_name base wb mb sv tv st N pn _ hW2 hpn (by omega) (Nat.le_trans hbase hp.size)).mono ?_
    rintro e w2 ⟨t7, rfl, hW3, hK3, hO3⟩
    rw [← hN2.out] at hW3 ⊢
    go_simp
    have hp2 : WrAt w2 base wb mb sv t7 st N2 ∧ Keeps (fun g => g = wb ∨ g = mb ∨ tv.ownBlock = some g) W w2 ∧ (∀ g, t7.ownBlock = some g → tv.ownBlock = some g ∨ W.heap.size ≤ g) := ⟨hW3, (hp.mono (fun _ _ e => e.elim)).trans hK3 (fun _ _ e => e), fun g hg => (hO3 g hg).imp id (fun e => Nat.le_trans hp.size e)⟩
    have hvw := holds_apart2 hc.1 hW2.holds (by decide)
    have hqw := holds_apart2 hc.2.2 hW2.holds (by decide)
    have hvm := holds_not_map hc.1 hW2.m
    have hqm := holds_not_map hc.2.2 hW2.m
    have hvt := bts_not hW2.t hc.1 (by decide)
    have hqt := bts_not hW2.t hc.2.2 (by decide)
    have hc2 : BhC base vb wb mb qb sv tv pn vl st stA st2 N N2 W w2 := ⟨hc.1.keeps hK3 (fun e => by rcases e with e | e | e; exact hvw e; exact hvm e; exact hvt e), ⟨t7, hW3.holds⟩, hc.2.2.keeps hK3 (fun e => by rcases e with e | e | e; exact hqw e; exact hqm e; exact hqt e)⟩
    have hJ : RInvF bhOps A (BhF base vb wb mb qb sv tv pn vl st stA st2 N N2 (t7) nB W1 sv2 sv3) (fun _ => True) l c wx := ⟨hI.1.other (fun j hj u hF => BhF.ghost0 hF ), hI.2⟩
    exact hK' _ _ ⟨t7, _, _, _, _, hJ.step bhRa 11 61 rfl (by rw [hsz]; decide) _ _ ho2 hall trivial (fun _ _ h => BhF.world h) rfl, fun _ => hc2, BhE.to0  (by rw [hls]; decide) un hp2⟩
  · have e7 : c.tmps.getD 57 undef = .int .i64 vl.size := hI.fact 7 57 rfl (hI.1.2.2.1.2.yes_far 20 ho2 hall (by decide) (by kernel_rfl))
    have f7 := e7
    simp only [Array.getD_eq_getD_getElem?] at e7
    have e11 : c.tmps.getD 61 undef = .int .i64 (plcB N2 pn) := hI.fact 11 61 rfl (hI.1.2.2.1.2.yes_far 20 ho2 hall (by decide) (by kernel_rfl))
    have f11 := e11
    simp only [Array.getD_eq_getD_getElem?] at e11
    have hc := hC (hI.1.2.2.1.2.no_far 20 hl (by kernel_rfl : farB bhOps 20 19 12 = true))
    have y0 : l.getD 11 false = true := hI.1.2.2.1.2.yes_far 20 ho2 hall (by decide) (by kernel_rfl)
    have hp := hE.at1 y0 hl
    have un := hI.1.2.2.1.2.no_far 20 hl (by kernel_rfl : farB bhOps 20 13 12 = true)
    obtain ⟨hp1, hp3, hp4⟩ := hp
    have hp2 : (WrAt (wx.alloc (.cells #[.int .i64 3, .int .i64 vl.size, .int .i64 (plcB N2 pn)] 3)) base wb mb sv tv2 st N2 ∧ Keeps (fun g => g = wb ∨ g = mb ∨ tv.ownBlock = some g) W (wx.alloc (.cells #[.int .i64 3, .int .i64 vl.size, .int .i64 (plcB N2 pn)] 3)) ∧ (∀ g, tv2.ownBlock = some g → tv.ownBlock = some g ∨ W.heap.size ≤ g)) ∧ Holds (wx.alloc (.cells #[.int .i64 3, .int .i64 vl.size, .int .i64 (plcB N2 pn)] 3)) wx.heap.size #[.int .i64 3, .int .i64 vl.size, .int .i64 (plcB N2 pn)] 3 ∧ wx.alloc (.cells #[.int .i64 3, .int .i64 vl.size, .int .i64 (plcB N2 pn)] 3) = wx.alloc (.cells #[.int .i64 3, .int .i64 vl.size, .int .i64 (plcB N2 pn)] 3) ∧ W.heap.size ≤ wx.heap.size ∧ (∀ b, sv.ownBlock = some b → b < wx.heap.size) := ⟨⟨hp1.keeps ((Keeps.refl (fun _ => False) wx).alloc _) (fun e => e) (fun e => e) (fun _ _ e => e) (fun _ _ e => e), hp3.alloc _, hp4⟩, Holds.new _ _ _, rfl, hp3.size, fun b hb => by obtain ⟨xs, hx⟩ := (bts_holds hp1.s hb).2; exact hx.lt⟩
    have hc2 : BhC base vb wb mb qb sv tv pn vl st stA st2 N N2 W (wx.alloc (.cells #[.int .i64 3, .int .i64 vl.size, .int .i64 (plcB N2 pn)] 3)) := ⟨hc.1.alloc _, ⟨tv2, hp1.holds.alloc _⟩, hc.2.2.alloc _⟩
    go_simp
    have hJ : RInvF bhOps A (BhF base vb wb mb qb sv tv pn vl st stA st2 N N2 tv2 (wx.heap.size) (wx.alloc (.cells #[.int .i64 3, .int .i64 vl.size, .int .i64 (plcB N2 pn)] 3)) sv2 sv3) (fun _ => True) l c wx := ⟨hI.1.other (fun j hj u hF => BhF.ghost1 hF (yes_no hj hl)), hI.2⟩
    exact hK' _ _ ⟨_, wx.heap.size, wx.alloc (.cells #[.int .i64 3, .int .i64 vl.size, .int .i64 (plcB N2 pn)] 3), _, _, hJ.step bhRa 12 62 rfl (by rw [hsz]; decide) _ _ ho2 hall trivial (fun _ _ h => BhF.world h) rfl, fun _ => hc2, BhE.to1 y0 (by rw [hls]; decide) un hp2⟩
  · have e4 : c.tmps.getD 54 undef = sv := hI.fact 4 54 rfl (hI.1.2.2.1.2.yes_far 20 ho2 hall (by decide) (by kernel_rfl))
    have f4 := e4
    simp only [Array.getD_eq_getD_getElem?] at e4
    have e12 : c.tmps.getD 62 undef = .slice (some ⟨nB, 0, none⟩) 3 3 := hI.fact 12 62 rfl (hI.1.2.2.1.2.yes_far 20 ho2 hall (by decide) (by kernel_rfl))
    have f12 := e12
    simp only [Array.getD_eq_getD_getElem?] at e12
    have hc := hC (hI.1.2.2.1.2.no_far 20 hl (by kernel_rfl : farB bhOps 20 19 13 = true))
    have y0 : l.getD 11 false = true := hI.1.2.2.1.2.yes_far 20 ho2 hall (by decide) (by kernel_rfl)
    have y1 : l.getD 12 false = true := hI.1.2.2.1.2.yes_far 20 ho2 hall (by decide) (by kernel_rfl)
    have hp := hE.at2 y0 y1 hl
    have un := hI.1.2.2.1.2.no_far 20 hl (by kernel_rfl : farB bhOps 20 16 13 = true)
    obtain ⟨hp1, hpB, hpw, hpN, hpl2⟩ := hp
    have HPW := Lib.hid hpw
    clear hpw
    have hn : ∀ b, sv.ownBlock = some b → Value.ownBlock (.slice (some ⟨nB, 0, none⟩) 3 3) ≠ some b := fun b hb e => by
      have e2 : nB = b := Option.some.inj e
      have := hpl2 b hb
      omega
    go_simp
    refine (blob_put base _ (.slice (some ⟨nB, 0, none⟩) 3 3) st [3, (vl.size : Int), (plcB N2 pn : Int)] _ (by rw [HPW.out]; exact hp1.1.s) (list_held (l := [3, (vl.size : Int), (plcB N2 pn : Int)]) hpB (by simp)) hn (by intro x hx; simp at hx; rcases hx with rfl | rfl | rfl <;> omega) (by simp) (by omega) (by rw [HPW.out]; exact Nat.le_trans hbase hp1.2.1.size)).mono ?_
    rintro e w2 ⟨s7, rfl, hb3, hG3⟩
    go_simp
    have hp2 : (WrAt W1 base wb mb sv tv2 st N2 ∧ Keeps (fun g => g = wb ∨ g = mb ∨ tv.ownBlock = some g) W W1 ∧ (∀ g, tv2.ownBlock = some g → tv.ownBlock = some g ∨ W.heap.size ≤ g)) ∧ Bts w2 base s7 stA ∧ Grew W1 w2 sv s7 := ⟨hp1, by rw [hsA.out, ← bytes4_b4 3 (by omega), ← bytes4_b4 vl.size (by omega), ← bytes4_b4 _ hpl]; simpa [b4s] using hb3, by rw [HPW.out] at hG3; exact hG3⟩
    have hS0 : Bts wx base sv st := by rw [HPW.out]; exact hp1.1.s
    have hX0 : Holds wx wb #[sv, tv2, .map (some mb)] 102 := by rw [HPW.out]; exact hp1.1.holds
    have hc2 : BhC base vb wb mb qb sv tv pn vl st stA st2 N N2 W w2 := ⟨hc.1.keeps hG3.1 (bts_not hS0 hc.1 (by decide)), ⟨tv2, hX0.keeps hG3.1 (bts_not hS0 hX0 (by decide))⟩, hc.2.2.keeps hG3.1 (bts_not hS0 hc.2.2 (by decide))⟩
    have hJ : RInvF bhOps A (BhF base vb wb mb qb sv tv pn vl st stA st2 N N2 tv2 nB W1 (s7) sv3) (fun _ => True) l c wx := ⟨hI.1.other (fun j hj u hF => BhF.ghost2 hF (yes_no hj hl)), hI.2⟩
    exact hK' _ _ ⟨_, _, _, s7, _, hJ.step bhRa 13 63 rfl (by rw [hsz]; decide) _ _ ho2 hall trivial (fun _ _ h => BhF.world h) rfl, fun _ => hc2, BhE.to2 y0 y1 (by rw [hls]; decide) un hp2⟩
  · go_simp
    exact hK' _ _ ⟨tv2, nB, W1, sv2, sv3, hI.step bhRa 14 64 rfl (by rw [hsz]; decide) _ _ ho2 hall trivial (fun _ _ h => h) rfl, (fun h => hC (listed_set h)), hE.other (by decide) (by decide) (by decide) (by decide) (by decide)⟩
  · have e14 : c.tmps.getD 64 undef = .pointer (some ⟨qb, 1, none⟩) := hI.fact 14 64 rfl (hI.1.2.2.1.2.yes_far 20 ho2 hall (by decide) (by kernel_rfl))
    have f14 := e14
    simp only [Array.getD_eq_getD_getElem?] at e14
    have hc := hC (hI.1.2.2.1.2.no_far 20 hl (by kernel_rfl : farB bhOps 20 19 15 = true))
    have x0 := hc.2.2.cell 1
    go_simp
    exact hK' _ _ ⟨tv2, nB, W1, sv2, sv3, hI.step bhRa 15 65 rfl (by rw [hsz]; decide) _ _ ho2 hall trivial (fun _ _ h => h) rfl, (fun h => hC (listed_set h)), hE.other (by decide) (by decide) (by decide) (by decide) (by decide)⟩
  · have e13 : c.tmps.getD 63 undef = sv2 := hI.fact 13 63 rfl (hI.1.2.2.1.2.yes_far 20 ho2 hall (by decide) (by kernel_rfl))
    have f13 := e13
    simp only [Array.getD_eq_getD_getElem?] at e13
    have e15 : c.tmps.getD 65 undef = .string vl := hI.fact 15 65 rfl (hI.1.2.2.1.2.yes_far 20 ho2 hall (by decide) (by kernel_rfl))
    have f15 := e15
    simp only [Array.getD_eq_getD_getElem?] at e15
    have hc := hC (hI.1.2.2.1.2.no_far 20 hl (by kernel_rfl : farB bhOps 20 19 16 = true))
    have y0 : l.getD 11 false = true := hI.1.2.2.1.2.yes_far 20 ho2 hall (by decide) (by kernel_rfl)
    have y1 : l.getD 12 false = true := hI.1.2.2.1.2.yes_far 20 ho2 hall (by decide) (by kernel_rfl)
    have y2 : l.getD 13 false = true := hI.1.2.2.1.2.yes_far 20 ho2 hall (by decide) (by kernel_rfl)
    have hp := hE.at3 y0 y1 y2 hl
    have un := hI.1.2.2.1.2.no_far 20 hl (by kernel_rfl : farB bhOps 20 19 16 = true)
    obtain ⟨hp1, hp0, hpG⟩ := hp
    have hal : stA.length ≤ 1000000000 := by rw [hsA.out]; simp only [List.length_append, b4_len]; omega
    go_simp
    refine (blob_padded base sv2 stA vl 0 _ hp0 (by omega) (by omega) hal (Nat.le_trans hbase (Nat.le_trans hp1.2.1.size hpG.1.size))).mono ?_
    rintro e w2 ⟨s7, rfl, hb3, hG3⟩
    go_simp
    have hp2 : (WrAt W1 base wb mb sv tv2 st N2 ∧ Keeps (fun g => g = wb ∨ g = mb ∨ tv.ownBlock = some g) W W1 ∧ (∀ g, tv2.ownBlock = some g → tv.ownBlock = some g ∨ W.heap.size ≤ g)) ∧ Bts w2 base s7 st2 ∧ Grew W1 w2 sv s7 := ⟨hp1, by rw [hst2.out]; exact hb3, hpG.trans hG3⟩
    obtain ⟨x, hx⟩ := hc.2.1
    have hc2 : BhC base vb wb mb qb sv tv pn vl st stA st2 N N2 W w2 := ⟨hc.1.keeps hG3.1 (bts_not hp0 hc.1 (by decide)), ⟨x, hx.keeps hG3.1 (bts_not hp0 hx (by decide))⟩, hc.2.2.keeps hG3.1 (bts_not hp0 hc.2.2 (by decide))⟩
    have hJ : RInvF bhOps A (BhF base vb wb mb qb sv tv pn vl st stA st2 N N2 tv2 nB W1 sv2 (s7)) (fun _ => True) l c wx := ⟨hI.1.other (fun j hj u hF => BhF.ghost3 hF (yes_no hj hl)), hI.2⟩
    exact hK' _ _ ⟨_, _, _, _, s7, hJ.step bhRa 16 66 rfl (by rw [hsz]; decide) _ _ ho2 hall trivial (fun _ _ h => BhF.world h) rfl, fun _ => hc2, BhE.to3 y0 y1 y2 (by rw [hls]; decide) un hp2⟩
  · have e0 : c.tmps.getD 50 undef = .pointer (some ⟨wb, 0, none⟩) := hI.fact 0 50 rfl (hI.1.2.2.1.2.yes_far 20 ho2 hall (by decide) (by kernel_rfl))
    have f0 := e0
    simp only [Array.getD_eq_getD_getElem?] at e0
    go_simp
    exact hK' _ _ ⟨tv2, nB, W1, sv2, sv3, hI.step bhRa 17 67 rfl (by rw [hsz]; decide) _ _ ho2 hall trivial (fun _ _ h => h) rfl, (fun h => hC (listed_set h)), hE.other (by decide) (by decide) (by decide) (by decide) (by decide)⟩
  · have e17 : c.tmps.getD 67 undef = .pointer (some ⟨wb, 0, none⟩) := hI.fact 17 67 rfl (hI.1.2.2.1.2.yes_far 20 ho2 hall (by decide) (by kernel_rfl))
    have f17 := e17
    simp only [Array.getD_eq_getD_getElem?] at e17
    go_simp
    exact hK' _ _ ⟨tv2, nB, W1, sv2, sv3, hI.step bhRa 18 68 rfl (by rw [hsz]; decide) _ _ ho2 hall trivial (fun _ _ h => h) rfl, (fun h => hC (listed_set h)), hE.other (by decide) (by decide) (by decide) (by decide) (by decide)⟩
  · have e16 : c.tmps.getD 66 undef = sv3 := hI.fact 16 66 rfl (hI.1.2.2.1.2.yes_far 20 ho2 hall (by decide) (by kernel_rfl))
    have f16 := e16
    simp only [Array.getD_eq_getD_getElem?] at e16
    have e18 : c.tmps.getD 68 undef = .pointer (some ⟨wb, 0, none⟩) := hI.fact 18 68 rfl (hI.1.2.2.1.2.yes_far 20 ho2 hall (by decide) (by kernel_rfl))
    have f18 := e18
    simp only [Array.getD_eq_getD_getElem?] at e18
    have hc := hC (hI.1.2.2.1.2.no_far 20 hl (by kernel_rfl : farB bhOps 20 19 19 = true))
    have y0 : l.getD 11 false = true := hI.1.2.2.1.2.yes_far 20 ho2 hall (by decide) (by kernel_rfl)
    have y1 : l.getD 12 false = true := hI.1.2.2.1.2.yes_far 20 ho2 hall (by decide) (by kernel_rfl)
    have y2 : l.getD 13 false = true := hI.1.2.2.1.2.yes_far 20 ho2 hall (by decide) (by kernel_rfl)
    have y3 : l.getD 16 false = true := hI.1.2.2.1.2.yes_far 20 ho2 hall (by decide) (by kernel_rfl)
    have hp := hE.at4 y0 y1 y2 y3 hl
    obtain ⟨hp1, hp0, hpG⟩ := hp
    obtain ⟨a2, c2, rfl⟩ := hp0.shape
    obtain ⟨x, hx⟩ := hc.2.1
    have x0 := hx.cell 0
    have x1 := hx.free 0
    have x2 := hx.lt
    go_simp
    have hp2 := (⟨hp1, _, rfl, hp0, hpG⟩ : (WrAt W1 base wb mb sv tv2 st N2 ∧ Keeps (fun g => g = wb ∨ g = mb ∨ tv.ownBlock = some g) W W1 ∧ (∀ g, tv2.ownBlock = some g → tv.ownBlock = some g ∨ W.heap.size ≤ g)) ∧ ∃ w3, wx.setCell ⟨wb, 0, none⟩ (.slice a2 st2.length c2) = w3.setCell ⟨wb, 0, none⟩ (.slice a2 st2.length c2) ∧ Bts w3 base (.slice a2 st2.length c2) st2 ∧ Grew W1 w3 sv (.slice a2 st2.length c2))
    exact hK' _ _ ⟨_, _, _, _, _, hI.stepN 19 rfl _ ho2 hall trivial (fun _ _ h => BhF.world h) trivial, fun h => absurd h (by rw [set_here (by rw [hls]; decide)]; simp), BhE.to4 y0 y1 y2 y3 (by rw [hls]; decide) hp2⟩
end Go.Proofs.YtofhcgbihonckaaGreatDoor

namespace Go.Proofs.YtofhcgbihonckaaGreatDoor
open Go.RowKit
open Go.ChangeMaps
noncomputable def biOps : Array Oper := (regOps (Tryz.f33.body.getD .skip) 18).getD #[]
theorem biR : inRow2 .any biOps = true := by kernel_rfl
theorem biRa : apartB biOps = true := by kernel_rfl
theorem biRn : biOps.size = 35 := by kernel_rfl
def BiF (_ _ wb _ : Nat) (sa ta : Option Addr) (sc tc : Nat) (st : List UInt8) (N : List ByteArray) (nB : Nat) (hv : Value) (j : Nat) : Value → World → Prop := match j with
  | 0 => fun u _ => u = .pointer (some ⟨wb, 0, none⟩)
  | 1 => fun u _ => u = .pointer (some ⟨wb, 0, none⟩)
  | 2 => fun u _ => u = .pointer (some ⟨wb, 0, none⟩)
  | 3 => fun u _ => u = (.slice sa st.length sc)
  | 4 => fun u _ => u = .int .i64 st.length
  | 5 => fun u _ => u = .int .i64 (28 + (st.length : Int))
  | 6 => fun u _ => u = .pointer (some ⟨wb, 0, none⟩)
  | 7 => fun u _ => u = .pointer (some ⟨wb, 0, none⟩)
  | 8 => fun u _ => u = .pointer (some ⟨wb, 1, none⟩)
  | 9 => fun u _ => u = (.slice ta (strsT N).length tc)
  | 10 => fun u _ => u = .int .i64 (strsT N).length
  | 11 => fun u _ => u = .int .i64 (28 + (st.length : Int) + ((strsT N).length : Int))
  | 12 => fun u _ => u = .pointer (some ⟨wb, 0, none⟩)
  | 13 => fun u _ => u = .pointer (some ⟨wb, 0, none⟩)
  | 14 => fun u _ => u = .pointer (some ⟨wb, 0, none⟩)
  | 15 => fun u _ => u = (.slice sa st.length sc)
  | 16 => fun u _ => u = .int .i64 st.length
  | 17 => fun u _ => u = .pointer (some ⟨wb, 0, none⟩)
  | 18 => fun u _ => u = .pointer (some ⟨wb, 0, none⟩)
  | 19 => fun u _ => u = .pointer (some ⟨wb, 1, none⟩)
  | 20 => fun u _ => u = (.slice ta (strsT N).length tc)
  | 21 => fun u _ => u = .int .i64 (strsT N).length
  | 22 => fun u _ => u = .pointer (some ⟨wb, 0, none⟩)
  | 23 => fun u _ => u = .pointer (some ⟨wb, 0, none⟩)
  | 24 => fun u _ => u = .pointer (some ⟨wb, 0, none⟩)
  | 25 => fun u _ => u = (.slice sa st.length sc)
  | 26 => fun u _ => u = .int .i64 (sumB st)
  | 27 => fun u _ => u = .pointer (some ⟨wb, 0, none⟩)
  | 28 => fun u _ => u = .pointer (some ⟨wb, 0, none⟩)
  | 29 => fun u _ => u = .pointer (some ⟨wb, 1, none⟩)
  | 30 => fun u _ => u = (.slice ta (strsT N).length tc)
  | 31 => fun u _ => u = .int .i64 (sumB (strsT N))
  | 32 => fun u _ => u = .slice (some ⟨nB, 0, none⟩) 6 6
  | 33 => fun u _ => u = hv
  | 34 => fun u _ => u = hv
  | _ => fun _ _ => True
/-- What holds until the chain's end. -/
def BiC (base vb wb mb : Nat) (sa ta : Option Addr) (sc tc : Nat) (st : List UInt8) (N : List ByteArray) (_ w : World) : Prop := (Holds w vb #[.pointer (some ⟨wb, 0, none⟩)] 99) ∧ WrAt w base wb mb (.slice sa st.length sc) (.slice ta (strsT N).length tc) st N
/-- Where the chain stands. -/
def BiE (base _ _ _ : Nat) (_ _ : Option Addr) (_ _ : Nat) (st : List UInt8) (N : List ByteArray) (nB : Nat) (hv : Value) (W w : World) (l : Array Bool) : Prop :=
  if l.getD 32 false = false then (Keeps (fun _ => False) W w) else
  if l.getD 33 false = false then (Keeps (fun _ => False) W w ∧ Holds w nB #[.int .i64 3490578157, .int .i64 (28 + (st.length : Int) + ((strsT N).length : Int)), .int .i64 st.length, .int .i64 (strsT N).length, .int .i64 (sumB st), .int .i64 (sumB (strsT N))] 3) else
  Bts w base hv (frontT st (strsT N)) ∧ Keeps (fun _ => False) W w ∧ (∀ g, hv.ownBlock = some g → W.heap.size ≤ g)
section
variable {base vb wb mb : Nat} {sa ta : Option Addr} {sc tc : Nat} {st : List UInt8} {N : List ByteArray} {nB : Nat} {hv : Value} {W w : World} {l : Array Bool}
theorem BiE.other {j : Nat} (h : BiE base vb wb mb sa ta sc tc st N nB hv W w l) (n0 : j ≠ 32) (n1 : j ≠ 33) : BiE base vb wb mb sa ta sc tc st N nB hv W w (l.setIfInBounds j true) := by
  unfold BiE at h ⊢
  rw [set_other n0, set_other n1]
  exact h
theorem BiE.at0 (h : BiE base vb wb mb sa ta sc tc st N nB hv W w l)  (no : l.getD 32 false = false) : Keeps (fun _ => False) W w := by
  unfold BiE at h
  rw [no, if_pos rfl] at h
  exact h
theorem BiE.to0  (hs : 32 < l.size) (no : l.getD 33 false = false) (h : Keeps (fun _ => False) W w ∧ Holds w nB #[.int .i64 3490578157, .int .i64 (28 + (st.length : Int) + ((strsT N).length : Int)), .int .i64 st.length, .int .i64 (strsT N).length, .int .i64 (sumB st), .int .i64 (sumB (strsT N))] 3) : BiE base vb wb mb sa ta sc tc st N nB hv W w (l.setIfInBounds 32 true) := by
  unfold BiE
  rw [set_here hs, if_neg (by simp)]
  rw [set_other (show 32 ≠ 33 by decide), no, if_pos rfl]
  exact h
theorem BiE.at1 (h : BiE base vb wb mb sa ta sc tc st N nB hv W w l) (y0 : l.getD 32 false = true) (no : l.getD 33 false = false) : Keeps (fun _ => False) W w ∧ Holds w nB #[.int .i64 3490578157, .int .i64 (28 + (st.length : Int) + ((strsT N).length : Int)), .int .i64 st.length, .int .i64 (strsT N).length, .int .i64 (sumB st), .int .i64 (sumB (strsT N))] 3 := by
  unfold BiE at h
  rw [y0, if_neg (by simp)] at h
  rw [no, if_pos rfl] at h
  exact h
theorem BiE.to1 (y0 : l.getD 32 false = true) (hs : 33 < l.size) (h : Bts w base hv (frontT st (strsT N)) ∧ Keeps (fun _ => False) W w ∧ (∀ g, hv.ownBlock = some g → W.heap.size ≤ g)) : BiE base vb wb mb sa ta sc tc st N nB hv W w (l.setIfInBounds 33 true) := by
  unfold BiE
  rw [set_other (show 33 ≠ 32 by decide), y0, if_neg (by simp)]
  rw [set_here hs, if_neg (by simp)]
  exact h
theorem BiF.ghost0 {nB' : Nat} {j : Nat} {u : Value} (h : BiF base vb wb mb sa ta sc tc st N nB hv j u w) (n0 : j ≠ 32) : BiF base vb wb mb sa ta sc tc st N nB' hv j u w := by
  unfold BiF at *
  split at h
  all_goals first
    | exact h
    | exact absurd rfl n0
theorem BiF.ghost1 {hv' : Value} {j : Nat} {u : Value} (h : BiF base vb wb mb sa ta sc tc st N nB hv j u w) (n0 : j ≠ 33) (n1 : j ≠ 34) : BiF base vb wb mb sa ta sc tc st N nB hv' j u w := by
  unfold BiF at *
  split at h
  all_goals first
    | exact h
    | exact absurd rfl n0
    | exact absurd rfl n1
theorem BiF.world {j : Nat} {u : Value} {w' : World} (h : BiF base vb wb mb sa ta sc tc st N nB hv j u w) : BiF base vb wb mb sa ta sc tc st N nB hv j u w' := by
  unfold BiF at *
  split at h
  all_goals exact h
end

set_option maxHeartbeats 8000000 in
set_option maxRecDepth 100000 in
theorem bi_region18 {Q : Exit → Act → World → Prop} (base vb wb mb : Nat) (sa ta : Option Addr) (sc tc : Nat) (st : List UInt8) (N : List ByteArray) (W w : World) (A : Act) (hsz : A.tmps.size = 132) (hst : st.length ≤ 900000000) (hsn : (strsT N).length ≤ 900000000) (hbase : base ≤ W.heap.size)
    (a3 : A.tmps.getD 3 undef = .pointer (some ⟨vb, 0, none⟩)) (hC0 : BiC base vb wb mb sa ta sc tc st N W w) (hE0 : Keeps (fun _ => False) W w)
    (hQ : ∀ c w' (nB : Nat) (hv : Value), SameBut biOps A c → c.tmps.getD 10 undef = hv → BiC base vb wb mb sa ta sc tc st N W w' → (Bts w' base hv (frontT st (strsT N)) ∧ Keeps (fun _ => False) W w' ∧ (∀ g, hv.ownBlock = some g → W.heap.size ≤ g)) → Q .normal c w') :
    wpAny Tryz.prog .any biOps Q biOps.size (Array.replicate biOps.size false) A w := by
  refine wpAny_inv2 (fun l c wx => ∃ nB hv, RInvF biOps A (BiF base vb wb mb sa ta sc tc st N nB hv) (fun _ => True) l c wx ∧ BiC base vb wb mb sa ta sc tc st N W wx ∧ BiE base vb wb mb sa ta sc tc st N nB hv W wx l) biR ?hend ?hstep _ _ _ _ (by simp) (by simp) ⟨0, .slice none 0 0, RInvF.start trivial, hC0, by unfold BiE; rw [if_pos (rep_no _ _)]; exact hE0⟩
  case hend =>
    rintro l c wx ⟨nB, hv, hI, hC, hE⟩ hl
    have hh : ∀ k, k < 35 → l.getD k false = true := fun k hk => hl k (by rw [biRn]; exact hk)
    have hEm : Bts wx base hv (frontT st (strsT N)) ∧ Keeps (fun _ => False) W wx ∧ (∀ g, hv.ownBlock = some g → W.heap.size ≤ g) := by
      unfold BiE at hE
      rw [hh 32 (by decide), if_neg (by simp)] at hE
      rw [hh 33 (by decide), if_neg (by simp)] at hE
      exact hE
    exact hQ c wx nB hv hI.1.1 (hI.fact 34 10 rfl (hh 34 (by decide))) hC hEm
  intro l c wx hIx i' op ho hl hall K' hK'
  obtain ⟨nB, hv, hI, hC, hE⟩ := hIx
  have hls : l.size = 35 := by rw [hI.1.2.2.1.1, biRn]
  have hi' : i' < 35 := by rw [← biRn]; exact (Array.getElem?_eq_some_iff.1 ho).1
  have ho2 := ho
  simp only [biOps, regOps, Tryz.f33, Option.getD_some, reduceIte, Nat.reduceEqDiff] at ho
  have s3 := (hI.slot 3 (by kernel_rfl)).trans a3
  have fs := And.intro True.intro True.intro
  simp only [Array.getD_eq_getD_getElem?] at s3
  have hic : i' = 0 ∨ i' = 1 ∨ i' = 2 ∨ i' = 3 ∨ i' = 4 ∨ i' = 5 ∨ i' = 6 ∨ i' = 7 ∨ i' = 8 ∨ i' = 9 ∨ i' = 10 ∨ i' = 11 ∨ i' = 12 ∨ i' = 13 ∨ i' = 14 ∨ i' = 15 ∨ i' = 16 ∨ i' = 17 ∨ i' = 18 ∨ i' = 19 ∨ i' = 20 ∨ i' = 21 ∨ i' = 22 ∨ i' = 23 ∨ i' = 24 ∨ i' = 25 ∨ i' = 26 ∨ i' = 27 ∨ i' = 28 ∨ i' = 29 ∨ i' = 30 ∨ i' = 31 ∨ i' = 32 ∨ i' = 33 ∨ i' = 34 := by omega
  clear hi'
  rcases hic with rfl | rfl | rfl | rfl | rfl | rfl | rfl | rfl | rfl | rfl | rfl | rfl | rfl | rfl | rfl | rfl | rfl | rfl | rfl | rfl | rfl | rfl | rfl | rfl | rfl | rfl | rfl | rfl | rfl | rfl | rfl | rfl | rfl | rfl | rfl
  all_goals cases ho
  · have hc := hC
    have x0 := hc.1.cell 0
    go_simp
    exact hK' _ _ ⟨nB, hv, hI.step biRa 0 82 rfl (by rw [hsz]; decide) _ _ ho2 hall trivial (fun _ _ h => h) rfl, hC, hE.other (by decide) (by decide)⟩
  · have e0 : c.tmps.getD 82 undef = .pointer (some ⟨wb, 0, none⟩) := hI.fact 0 82 rfl (hI.1.2.2.1.2.yes_far 35 ho2 hall (by decide) (by kernel_rfl))
    have f0 := e0
    simp only [Array.getD_eq_getD_getElem?] at e0
    go_simp
    exact hK' _ _ ⟨nB, hv, hI.step biRa 1 83 rfl (by rw [hsz]; decide) _ _ ho2 hall trivial (fun _ _ h => h) rfl, hC, hE.other (by decide) (by decide)⟩
  · have e1 : c.tmps.getD 83 undef = .pointer (some ⟨wb, 0, none⟩) := hI.fact 1 83 rfl (hI.1.2.2.1.2.yes_far 35 ho2 hall (by decide) (by kernel_rfl))
    have f1 := e1
    simp only [Array.getD_eq_getD_getElem?] at e1
    go_simp
    exact hK' _ _ ⟨nB, hv, hI.step biRa 2 84 rfl (by rw [hsz]; decide) _ _ ho2 hall trivial (fun _ _ h => h) rfl, hC, hE.other (by decide) (by decide)⟩
  · have e2 : c.tmps.getD 84 undef = .pointer (some ⟨wb, 0, none⟩) := hI.fact 2 84 rfl (hI.1.2.2.1.2.yes_far 35 ho2 hall (by decide) (by kernel_rfl))
    have f2 := e2
    simp only [Array.getD_eq_getD_getElem?] at e2
    have hc := hC
    have x0 := hc.2.holds.cell 0
    go_simp
    exact hK' _ _ ⟨nB, hv, hI.step biRa 3 85 rfl (by rw [hsz]; decide) _ _ ho2 hall trivial (fun _ _ h => h) rfl, hC, hE.other (by decide) (by decide)⟩
  · have e3 : c.tmps.getD 85 undef = (.slice sa st.length sc) := hI.fact 3 85 rfl (hI.1.2.2.1.2.yes_far 35 ho2 hall (by decide) (by kernel_rfl))
    have f3 := e3
    simp only [Array.getD_eq_getD_getElem?] at e3
    go_simp
    exact hK' _ _ ⟨nB, hv, hI.step biRa 4 86 rfl (by rw [hsz]; decide) _ _ ho2 hall trivial (fun _ _ h => h) rfl, hC, hE.other (by decide) (by decide)⟩
  · have e4 : c.tmps.getD 86 undef = .int .i64 st.length := hI.fact 4 86 rfl (hI.1.2.2.1.2.yes_far 35 ho2 hall (by decide) (by kernel_rfl))
    have f4 := e4
    simp only [Array.getD_eq_getD_getElem?] at e4
    have hc := hC
    have hw : IntKind.i64.wrap (28 + (st.length : Int)) = 28 + (st.length : Int) := IntWalk.i64_in _ (by omega)
    go_simp
    exact hK' _ _ ⟨nB, hv, hI.step biRa 5 87 rfl (by rw [hsz]; decide) _ _ ho2 hall trivial (fun _ _ h => h) rfl, hC, hE.other (by decide) (by decide)⟩
  · have hc := hC
    have x0 := hc.1.cell 0
    go_simp
    exact hK' _ _ ⟨nB, hv, hI.step biRa 6 88 rfl (by rw [hsz]; decide) _ _ ho2 hall trivial (fun _ _ h => h) rfl, hC, hE.other (by decide) (by decide)⟩
  · have e6 : c.tmps.getD 88 undef = .pointer (some ⟨wb, 0, none⟩) := hI.fact 6 88 rfl (hI.1.2.2.1.2.yes_far 35 ho2 hall (by decide) (by kernel_rfl))
    have f6 := e6
    simp only [Array.getD_eq_getD_getElem?] at e6
    go_simp
    exact hK' _ _ ⟨nB, hv, hI.step biRa 7 89 rfl (by rw [hsz]; decide) _ _ ho2 hall trivial (fun _ _ h => h) rfl, hC, hE.other (by decide) (by decide)⟩
  · have e7 : c.tmps.getD 89 undef = .pointer (some ⟨wb, 0, none⟩) := hI.fact 7 89 rfl (hI.1.2.2.1.2.yes_far 35 ho2 hall (by decide) (by kernel_rfl))
    have f7 := e7
    simp only [Array.getD_eq_getD_getElem?] at e7
    go_simp
    exact hK' _ _ ⟨nB, hv, hI.step biRa 8 90 rfl (by rw [hsz]; decide) _ _ ho2 hall trivial (fun _ _ h => h) rfl, hC, hE.other (by decide) (by decide)⟩
  · have e8 : c.tmps.getD 90 undef = .pointer (some ⟨wb, 1, none⟩) := hI.fact 8 90 rfl (hI.1.2.2.1.2.yes_far 35 ho2 hall (by decide) (by kernel_rfl))
    have f8 := e8
    simp only [Array.getD_eq_getD_getElem?] at e8
    have hc := hC
    have x0 := hc.2.holds.cell 1
    go_simp
    exact hK' _ _ ⟨nB, hv, hI.step biRa 9 91 rfl (by rw [hsz]; decide) _ _ ho2 hall trivial (fun _ _ h => h) rfl, hC, hE.other (by decide) (by decide)⟩
  · have e9 : c.tmps.getD 91 undef = (.slice ta (strsT N).length tc) := hI.fact 9 91 rfl (hI.1.2.2.1.2.yes_far 35 ho2 hall (by decide) (by kernel_rfl))
    have f9 := e9
    simp only [Array.getD_eq_getD_getElem?] at e9
    go_simp
    exact hK' _ _ ⟨nB, hv, hI.step biRa 10 92 rfl (by rw [hsz]; decide) _ _ ho2 hall trivial (fun _ _ h => h) rfl, hC, hE.other (by decide) (by decide)⟩
  · have e5 : c.tmps.getD 87 undef = .int .i64 (28 + (st.length : Int)) := hI.fact 5 87 rfl (hI.1.2.2.1.2.yes_far 35 ho2 hall (by decide) (by kernel_rfl))
    have f5 := e5
    simp only [Array.getD_eq_getD_getElem?] at e5
    have e10 : c.tmps.getD 92 undef = .int .i64 (strsT N).length := hI.fact 10 92 rfl (hI.1.2.2.1.2.yes_far 35 ho2 hall (by decide) (by kernel_rfl))
    have f10 := e10
    simp only [Array.getD_eq_getD_getElem?] at e10
    have hc := hC
    have hw : IntKind.i64.wrap (28 + (st.length : Int) + ((strsT N).length : Int)) = 28 + (st.length : Int) + ((strsT N).length : Int) := IntWalk.i64_in _ (by omega)
    go_simp
    exact hK' _ _ ⟨nB, hv, hI.step biRa 11 93 rfl (by rw [hsz]; decide) _ _ ho2 hall trivial (fun _ _ h => h) rfl, hC, hE.other (by decide) (by decide)⟩
  · have hc := hC
    have x0 := hc.1.cell 0
    go_simp
    exact hK' _ _ ⟨nB, hv, hI.step biRa 12 94 rfl (by rw [hsz]; decide) _ _ ho2 hall trivial (fun _ _ h => h) rfl, hC, hE.other (by decide) (by decide)⟩
  · have e12 : c.tmps.getD 94 undef = .pointer (some ⟨wb, 0, none⟩) := hI.fact 12 94 rfl (hI.1.2.2.1.2.yes_far 35 ho2 hall (by decide) (by kernel_rfl))
    have f12 := e12
    simp only [Array.getD_eq_getD_getElem?] at e12
    go_simp
    exact hK' _ _ ⟨nB, hv, hI.step biRa 13 95 rfl (by rw [hsz]; decide) _ _ ho2 hall trivial (fun _ _ h => h) rfl, hC, hE.other (by decide) (by decide)⟩
  · have e13 : c.tmps.getD 95 undef = .pointer (some ⟨wb, 0, none⟩) := hI.fact 13 95 rfl (hI.1.2.2.1.2.yes_far 35 ho2 hall (by decide) (by kernel_rfl))
    have f13 := e13
    simp only [Array.getD_eq_getD_getElem?] at e13
    go_simp
    exact hK' _ _ ⟨nB, hv, hI.step biRa 14 96 rfl (by rw [hsz]; decide) _ _ ho2 hall trivial (fun _ _ h => h) rfl, hC, hE.other (by decide) (by decide)⟩
  · have e14 : c.tmps.getD 96 undef = .pointer (some ⟨wb, 0, none⟩) := hI.fact 14 96 rfl (hI.1.2.2.1.2.yes_far 35 ho2 hall (by decide) (by kernel_rfl))
    have f14 := e14
    simp only [Array.getD_eq_getD_getElem?] at e14
    have hc := hC
    have x0 := hc.2.holds.cell 0
    go_simp
    exact hK' _ _ ⟨nB, hv, hI.step biRa 15 97 rfl (by rw [hsz]; decide) _ _ ho2 hall trivial (fun _ _ h => h) rfl, hC, hE.other (by decide) (by decide)⟩
  · have e15 : c.tmps.getD 97 undef = (.slice sa st.length sc) := hI.fact 15 97 rfl (hI.1.2.2.1.2.yes_far 35 ho2 hall (by decide) (by kernel_rfl))
    have f15 := e15
    simp only [Array.getD_eq_getD_getElem?] at e15
    go_simp
    exact hK' _ _ ⟨nB, hv, hI.step biRa 16 98 rfl (by rw [hsz]; decide) _ _ ho2 hall trivial (fun _ _ h => h) rfl, hC, hE.other (by decide) (by decide)⟩
  · have hc := hC
    have x0 := hc.1.cell 0
    go_simp
    exact hK' _ _ ⟨nB, hv, hI.step biRa 17 99 rfl (by rw [hsz]; decide) _ _ ho2 hall trivial (fun _ _ h => h) rfl, hC, hE.other (by decide) (by decide)⟩
  · have e17 : c.tmps.getD 99 undef = .pointer (some ⟨wb, 0, none⟩) := hI.fact 17 99 rfl (hI.1.2.2.1.2.yes_far 35 ho2 hall (by decide) (by kernel_rfl))
    have f17 := e17
    simp only [Array.getD_eq_getD_getElem?] at e17
    go_simp
    exact hK' _ _ ⟨nB, hv, hI.step biRa 18 100 rfl (by rw [hsz]; decide) _ _ ho2 hall trivial (fun _ _ h => h) rfl, hC, hE.other (by decide) (by decide)⟩
  · have e18 : c.tmps.getD 100 undef = .pointer (some ⟨wb, 0, none⟩) := hI.fact 18 100 rfl (hI.1.2.2.1.2.yes_far 35 ho2 hall (by decide) (by kernel_rfl))
    have f18 := e18
    simp only [Array.getD_eq_getD_getElem?] at e18
    go_simp
    exact hK' _ _ ⟨nB, hv, hI.step biRa 19 101 rfl (by rw [hsz]; decide) _ _ ho2 hall trivial (fun _ _ h => h) rfl, hC, hE.other (by decide) (by decide)⟩
  · have e19 : c.tmps.getD 101 undef = .pointer (some ⟨wb, 1, none⟩) := hI.fact 19 101 rfl (hI.1.2.2.1.2.yes_far 35 ho2 hall (by decide) (by kernel_rfl))
    have f19 := e19
    simp only [Array.getD_eq_getD_getElem?] at e19
    have hc := hC
    have x0 := hc.2.holds.cell 1
    go_simp
    exact hK' _ _ ⟨nB, hv, hI.step biRa 20 102 rfl (by rw [hsz]; decide) _ _ ho2 hall trivial (fun _ _ h => h) rfl, hC, hE.other (by decide) (by decide)⟩
  · have e20 : c.tmps.getD 102 undef = (.slice ta (strsT N).length tc) := hI.fact 20 102 rfl (hI.1.2.2.1.2.yes_far 35 ho2 hall (by decide) (by kernel_rfl))
    have f20 := e20
    simp only [Array.getD_eq_getD_getElem?] at e20
    go_simp
    exact hK' _ _ ⟨nB, hv, hI.step biRa 21 103 rfl (by rw [hsz]; decide) _ _ ho2 hall trivial (fun _ _ h => h) rfl, hC, hE.other (by decide) (by decide)⟩
  · have hc := hC
    have x0 := hc.1.cell 0
    go_simp
    exact hK' _ _ ⟨nB, hv, hI.step biRa 22 104 rfl (by rw [hsz]; decide) _ _ ho2 hall trivial (fun _ _ h => h) rfl, hC, hE.other (by decide) (by decide)⟩
  · have e22 : c.tmps.getD 104 undef = .pointer (some ⟨wb, 0, none⟩) := hI.fact 22 104 rfl (hI.1.2.2.1.2.yes_far 35 ho2 hall (by decide) (by kernel_rfl))
    have f22 := e22
    simp only [Array.getD_eq_getD_getElem?] at e22
    go_simp
    exact hK' _ _ ⟨nB, hv, hI.step biRa 23 105 rfl (by rw [hsz]; decide) _ _ ho2 hall trivial (fun _ _ h => h) rfl, hC, hE.other (by decide) (by decide)⟩
  · have e23 : c.tmps.getD 105 undef = .pointer (some ⟨wb, 0, none⟩) := hI.fact 23 105 rfl (hI.1.2.2.1.2.yes_far 35 ho2 hall (by decide) (by kernel_rfl))
    have f23 := e23
    simp only [Array.getD_eq_getD_getElem?] at e23
    go_simp
    exact hK' _ _ ⟨nB, hv, hI.step biRa 24 106 rfl (by rw [hsz]; decide) _ _ ho2 hall trivial (fun _ _ h => h) rfl, hC, hE.other (by decide) (by decide)⟩
  · have e24 : c.tmps.getD 106 undef = .pointer (some ⟨wb, 0, none⟩) := hI.fact 24 106 rfl (hI.1.2.2.1.2.yes_far 35 ho2 hall (by decide) (by kernel_rfl))
    have f24 := e24
    simp only [Array.getD_eq_getD_getElem?] at e24
    have hc := hC
    have x0 := hc.2.holds.cell 0
    go_simp
    exact hK' _ _ ⟨nB, hv, hI.step biRa 25 107 rfl (by rw [hsz]; decide) _ _ ho2 hall trivial (fun _ _ h => h) rfl, hC, hE.other (by decide) (by decide)⟩
  · have e25 : c.tmps.getD 107 undef = (.slice sa st.length sc) := hI.fact 25 107 rfl (hI.1.2.2.1.2.yes_far 35 ho2 hall (by decide) (by kernel_rfl))
    have f25 := e25
    simp only [Array.getD_eq_getD_getElem?] at e25
    have hc := hC
    go_simp
    refine (blob_Sum (.slice sa st.length sc) st wx hc.2.s.read (by omega)).mono ?_
    rintro e w2 ⟨rfl, rfl⟩
    go_simp
    exact hK' _ _ ⟨nB, hv, hI.step biRa 26 108 rfl (by rw [hsz]; decide) _ _ ho2 hall trivial (fun _ _ h => h) rfl, hC, hE.other (by decide) (by decide)⟩
  · have hc := hC
    have x0 := hc.1.cell 0
    go_simp
    exact hK' _ _ ⟨nB, hv, hI.step biRa 27 109 rfl (by rw [hsz]; decide) _ _ ho2 hall trivial (fun _ _ h => h) rfl, hC, hE.other (by decide) (by decide)⟩
  · have e27 : c.tmps.getD 109 undef = .pointer (some ⟨wb, 0, none⟩) := hI.fact 27 109 rfl (hI.1.2.2.1.2.yes_far 35 ho2 hall (by decide) (by kernel_rfl))
    have f27 := e27
    simp only [Array.getD_eq_getD_getElem?] at e27
    go_simp
    exact hK' _ _ ⟨nB, hv, hI.step biRa 28 110 rfl (by rw [hsz]; decide) _ _ ho2 hall trivial (fun _ _ h => h) rfl, hC, hE.other (by decide) (by decide)⟩
  · have e28 : c.tmps.getD 110 undef = .pointer (some ⟨wb, 0, none⟩) := hI.fact 28 110 rfl (hI.1.2.2.1.2.yes_far 35 ho2 hall (by decide) (by kernel_rfl))
    have f28 := e28
    simp only [Array.getD_eq_getD_getElem?] at e28
    go_simp
    exact hK' _ _ ⟨nB, hv, hI.step biRa 29 111 rfl (by rw [hsz]; decide) _ _ ho2 hall trivial (fun _ _ h => h) rfl, hC, hE.other (by decide) (by decide)⟩
  · have e29 : c.tmps.getD 111 undef = .pointer (some ⟨wb, 1, none⟩) := hI.fact 29 111 rfl (hI.1.2.2.1.2.yes_far 35 ho2 hall (by decide) (by kernel_rfl))
    have f29 := e29
    simp only [Array.getD_eq_getD_getElem?] at e29
    have hc := hC
    have x0 := hc.2.holds.cell 1
    go_simp
    exact hK' _ _ ⟨nB, hv, hI.step biRa 30 112 rfl (by rw [hsz]; decide) _ _ ho2 hall trivial (fun _ _ h => h) rfl, hC, hE.other (by decide) (by decide)⟩
  · have e30 : c.tmps.getD 112 undef = (.slice ta (strsT N).length tc) := hI.fact 30 112 rfl (hI.1.2.2.1.2.yes_far 35 ho2 hall (by decide) (by kernel_rfl))
    have f30 := e30
    simp only [Array.getD_eq_getD_getElem?] at e30
    have hc := hC
    go_simp
    refine (blob_Sum (.slice ta (strsT N).length tc) (strsT N) wx hc.2.t.read (by omega)).mono ?_
    rintro e w2 ⟨rfl, rfl⟩
    go_simp
    exact hK' _ _ ⟨nB, hv, hI.step biRa 31 113 rfl (by rw [hsz]; decide) _ _ ho2 hall trivial (fun _ _ h => h) rfl, hC, hE.other (by decide) (by decide)⟩
  · have e11 : c.tmps.getD 93 undef = .int .i64 (28 + (st.length : Int) + ((strsT N).length : Int)) := hI.fact 11 93 rfl (hI.1.2.2.1.2.yes_far 35 ho2 hall (by decide) (by kernel_rfl))
    have f11 := e11
    simp only [Array.getD_eq_getD_getElem?] at e11
    have e16 : c.tmps.getD 98 undef = .int .i64 st.length := hI.fact 16 98 rfl (hI.1.2.2.1.2.yes_far 35 ho2 hall (by decide) (by kernel_rfl))
    have f16 := e16
    simp only [Array.getD_eq_getD_getElem?] at e16
    have e21 : c.tmps.getD 103 undef = .int .i64 (strsT N).length := hI.fact 21 103 rfl (hI.1.2.2.1.2.yes_far 35 ho2 hall (by decide) (by kernel_rfl))
    have f21 := e21
    simp only [Array.getD_eq_getD_getElem?] at e21
    have e26 : c.tmps.getD 108 undef = .int .i64 (sumB st) := hI.fact 26 108 rfl (hI.1.2.2.1.2.yes_far 35 ho2 hall (by decide) (by kernel_rfl))
    have f26 := e26
    simp only [Array.getD_eq_getD_getElem?] at e26
    have e31 : c.tmps.getD 113 undef = .int .i64 (sumB (strsT N)) := hI.fact 31 113 rfl (hI.1.2.2.1.2.yes_far 35 ho2 hall (by decide) (by kernel_rfl))
    have f31 := e31
    simp only [Array.getD_eq_getD_getElem?] at e31
    have hc := hC
    have hp := hE.at0  hl
    have un := hI.1.2.2.1.2.no_far 35 hl (by kernel_rfl : farB biOps 35 33 32 = true)
    go_simp
    have hp2 : Keeps (fun _ => False) W (wx.alloc (.cells #[.int .i64 3490578157, .int .i64 (28 + (st.length : Int) + ((strsT N).length : Int)), .int .i64 st.length, .int .i64 (strsT N).length, .int .i64 (sumB st), .int .i64 (sumB (strsT N))] 3)) ∧ Holds (wx.alloc (.cells #[.int .i64 3490578157, .int .i64 (28 + (st.length : Int) + ((strsT N).length : Int)), .int .i64 st.length, .int .i64 (strsT N).length, .int .i64 (sumB st), .int .i64 (sumB (strsT N))] 3)) wx.heap.size #[.int .i64 3490578157, .int .i64 (28 + (st.length : Int) + ((strsT N).length : Int)), .int .i64 st.length, .int .i64 (strsT N).length, .int .i64 (sumB st), .int .i64 (sumB (strsT N))] 3 := ⟨hp.alloc _, Holds.new _ _ _⟩
    have hc2 : BiC base vb wb mb sa ta sc tc st N W (wx.alloc (.cells #[.int .i64 3490578157, .int .i64 (28 + (st.length : Int) + ((strsT N).length : Int)), .int .i64 st.length, .int .i64 (strsT N).length, .int .i64 (sumB st), .int .i64 (sumB (strsT N))] 3)) := ⟨hc.1.alloc _, hc.2.keeps ((Keeps.refl (fun _ => False) wx).alloc _) (fun e => e) (fun e => e) (fun _ _ e => e) (fun _ _ e => e)⟩
    have hJ : RInvF biOps A (BiF base vb wb mb sa ta sc tc st N (wx.heap.size) hv) (fun _ => True) l c wx := ⟨hI.1.other (fun j hj u hF => BiF.ghost0 hF (yes_no hj hl)), hI.2⟩
    exact hK' _ _ ⟨wx.heap.size, _, hJ.step biRa 32 114 rfl (by rw [hsz]; decide) _ _ ho2 hall trivial (fun _ _ h => BiF.world h) rfl, hc2, BiE.to0  (by rw [hls]; decide) un hp2⟩
  · have e32 : c.tmps.getD 114 undef = .slice (some ⟨nB, 0, none⟩) 6 6 := hI.fact 32 114 rfl (hI.1.2.2.1.2.yes_far 35 ho2 hall (by decide) (by kernel_rfl))
    have f32 := e32
    simp only [Array.getD_eq_getD_getElem?] at e32
    have hc := hC
    have y0 : l.getD 32 false = true := hI.1.2.2.1.2.yes_far 35 ho2 hall (by decide) (by kernel_rfl)
    have hp := hE.at1 y0 hl
    obtain ⟨hp0, hpB⟩ := hp
    have q1 := sumB_lt st
    have q2 := sumB_lt (strsT N)
    go_simp
    refine (blob_put base (.slice none 0 0) (.slice (some ⟨nB, 0, none⟩) 6 6) [] [3490578157, 28 + (st.length : Int) + ((strsT N).length : Int), (st.length : Int), ((strsT N).length : Int), (sumB st : Int), (sumB (strsT N) : Int)] _ (Bts.nil _ _) (list_held (l := [3490578157, 28 + (st.length : Int) + ((strsT N).length : Int), (st.length : Int), ((strsT N).length : Int), (sumB st : Int), (sumB (strsT N) : Int)]) hpB (by simp)) (fun g e => by simp [Value.ownBlock] at e) (by intro x hx; simp at hx; rcases hx with rfl | rfl | rfl | rfl | rfl | rfl <;> omega) (by simp) (by simp) (Nat.le_trans hbase hp0.size)).mono ?_
    rintro e w2 ⟨h7, rfl, hb3, hG3⟩
    go_simp
    have hk3 : Keeps (fun _ => False) wx w2 := hG3.1.mono (fun i _ e => by simp [Value.ownBlock] at e)
    have hp2 : Bts w2 base h7 (frontT st (strsT N)) ∧ Keeps (fun _ => False) W w2 ∧ (∀ g, h7.ownBlock = some g → W.heap.size ≤ g) := ⟨by rw [← front_b4s st (strsT N) (by omega)]; exact hb3, hp0.trans hk3 (fun _ _ e => e), fun g hg => by rcases hG3.2 g hg with e | e; simp [Value.ownBlock] at e; exact Nat.le_trans hp0.size e⟩
    have hc2 : BiC base vb wb mb sa ta sc tc st N W w2 := ⟨hc.1.keeps hk3 (fun e => e), hc.2.keeps hk3 (fun e => e) (fun e => e) (fun _ _ e => e) (fun _ _ e => e)⟩
    have u34 := hI.1.2.2.1.2.no_far 35 hl (by kernel_rfl : farB biOps 35 34 33 = true)
    have hJ : RInvF biOps A (BiF base vb wb mb sa ta sc tc st N nB (h7)) (fun _ => True) l c wx := ⟨hI.1.other (fun j hj u hF => BiF.ghost1 hF (yes_no hj hl) (yes_no hj u34)), hI.2⟩
    exact hK' _ _ ⟨_, h7, hJ.step biRa 33 115 rfl (by rw [hsz]; decide) _ _ ho2 hall trivial (fun _ _ h => BiF.world h) rfl, hc2, BiE.to1 y0 (by rw [hls]; decide) hp2⟩
  · have e33 : c.tmps.getD 115 undef = hv := hI.fact 33 115 rfl (hI.1.2.2.1.2.yes_far 35 ho2 hall (by decide) (by kernel_rfl))
    have f33 := e33
    simp only [Array.getD_eq_getD_getElem?] at e33
    go_simp
    exact hK' _ _ ⟨nB, hv, hI.step biRa 34 10 rfl (by rw [hsz]; decide) _ _ ho2 hall trivial (fun _ _ h => h) rfl, hC, hE.other (by decide) (by decide)⟩
end Go.Proofs.YtofhcgbihonckaaGreatDoor
